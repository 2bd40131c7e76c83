/- RepV: what a push and a replica read as. -/
import Derived.Test.YtjdgpgfiomnjkaaGreatDoorT19
set_option linter.all false
set_option maxHeartbeats 4000000
set_option maxRecDepth 100000
namespace Go.Proofs.YtjdgpgfiomnjkaaGreatDoor
open Go.RowKit
structure AH (S : Nat → Prop) (w : World) (r : An) (sv rv ov uv : Value) : Prop where
 store : Ah S w sv r.store
 refs : AE S w rv r.refs
 objs : Ah S w ov r.pend.objects
 upds : AM S w uv r.pend.updates
 gen : DL r.gen
 phase : DL r.phase
theorem AH.below {S : Nat → Prop} {w w' : World} {r : An} {sv rv ov uv : Value} (h : AH S w r sv rv ov uv) (hb : Below w.heap.size w w') : AH S w' r sv rv ov uv :=
 ⟨h.store.below hb, h.refs.below hb, h.objs.below hb, h.upds.below hb, h.gen, h.phase⟩
theorem AH.weaken {S S' : Nat → Prop} {w : World} {r : An} {sv rv ov uv : Value} (h : AH S w r sv rv ov uv) (hs : ∀ b, S b → S' b) : AH S' w r sv rv ov uv :=
 ⟨h.store.weaken hs, h.refs.weaken hs, h.objs.weaken hs, h.upds.weaken hs, h.gen, h.phase⟩
def Bf (r : An) (sv rv ov uv : Value) : Value := .agg #[sv, rv, .int .i64 r.gen, .int .i64 r.phase, ov, uv, .bool r.pend.force]
def EH (p : BJ) (ov uv : Value) : Value := .agg #[ov, uv, .bool p.force]
def Yj (w w' : World) (e : Ending) (r : An) : Prop := ∃ sv rv ov uv, e = .returned (Bf r sv rv ov uv) ∧ AH (fun b => w.heap.size ≤ b) w' r sv rv ov uv ∧ Below w.heap.size w w'
def Vu (w w' : World) (e : Ending) (p : BJ) : Prop := ∃ ov uv, e = .returned (EH p ov uv) ∧ Ah (fun b => w.heap.size ≤ b) w' ov p.objects ∧ AM (fun b => w.heap.size ≤ b) w' uv p.updates ∧ Below w.heap.size w w'
def Bt (b : Nat) (v0 v1 v2 v3 v4 v5 v6 : Value) (w : World) : World := ((((((w.setCell ⟨b, 0, none⟩ v0).setCell ⟨b, 1, none⟩ v1).setCell ⟨b, 2, none⟩ v2).setCell ⟨b, 3, none⟩ v3).setCell ⟨b, 4, none⟩ v4).setCell ⟨b, 5, none⟩ v5).setCell ⟨b, 6, none⟩ v6
theorem Bz {b : Nat} {v0 v1 v2 v3 v4 v5 v6 u0 u1 u2 u3 u4 u5 u6 : Value} {t : TypeId} {w : World} (h0 : w.heap[b]? = some (.cells #[u0, u1, u2, u3, u4, u5, u6] t (0, 0))) :
  (Bt b v0 v1 v2 v3 v4 v5 v6 w).heap[b]? = some (.cells #[v0, v1, v2, v3, v4, v5, v6] t (0, 0)) := by
 have s0 : (w.setCell ⟨b, 0, none⟩ v0).heap[b]? = some (.cells #[v0, u1, u2, u3, u4, u5, u6] t (0, 0)) := by have := Ad (j := 0) h0 v0; simpa using this
 have s1 : ((w.setCell ⟨b, 0, none⟩ v0).setCell ⟨b, 1, none⟩ v1).heap[b]? = some (.cells #[v0, v1, u2, u3, u4, u5, u6] t (0, 0)) := by have := Ad (j := 1) s0 v1; simpa using this
 have s2 : (((w.setCell ⟨b, 0, none⟩ v0).setCell ⟨b, 1, none⟩ v1).setCell ⟨b, 2, none⟩ v2).heap[b]? = some (.cells #[v0, v1, v2, u3, u4, u5, u6] t (0, 0)) := by have := Ad (j := 2) s1 v2; simpa using this
 have s3 : ((((w.setCell ⟨b, 0, none⟩ v0).setCell ⟨b, 1, none⟩ v1).setCell ⟨b, 2, none⟩ v2).setCell ⟨b, 3, none⟩ v3).heap[b]? = some (.cells #[v0, v1, v2, v3, u4, u5, u6] t (0, 0)) := by have := Ad (j := 3) s2 v3; simpa using this
 have s4 : (((((w.setCell ⟨b, 0, none⟩ v0).setCell ⟨b, 1, none⟩ v1).setCell ⟨b, 2, none⟩ v2).setCell ⟨b, 3, none⟩ v3).setCell ⟨b, 4, none⟩ v4).heap[b]? = some (.cells #[v0, v1, v2, v3, v4, u5, u6] t (0, 0)) := by have := Ad (j := 4) s3 v4; simpa using this
 have s5 : ((((((w.setCell ⟨b, 0, none⟩ v0).setCell ⟨b, 1, none⟩ v1).setCell ⟨b, 2, none⟩ v2).setCell ⟨b, 3, none⟩ v3).setCell ⟨b, 4, none⟩ v4).setCell ⟨b, 5, none⟩ v5).heap[b]? = some (.cells #[v0, v1, v2, v3, v4, v5, u6] t (0, 0)) := by have := Ad (j := 5) s4 v5; simpa using this
 have s6 : (((((((w.setCell ⟨b, 0, none⟩ v0).setCell ⟨b, 1, none⟩ v1).setCell ⟨b, 2, none⟩ v2).setCell ⟨b, 3, none⟩ v3).setCell ⟨b, 4, none⟩ v4).setCell ⟨b, 5, none⟩ v5).setCell ⟨b, 6, none⟩ v6).heap[b]? = some (.cells #[v0, v1, v2, v3, v4, v5, v6] t (0, 0)) := by have := Ad (j := 6) s5 v6; simpa using this
 exact s6
theorem AY (b : Nat) (v0 v1 v2 v3 v4 v5 v6 : Value) (w : World) : Av (fun x => x = b) w (Bt b v0 v1 v2 v3 v4 v5 v6 w) :=
 Av.setCell (T := fun x => x = b) (Av.setCell (T := fun x => x = b) (Av.setCell (T := fun x => x = b) (Av.setCell (T := fun x => x = b) (Av.setCell (T := fun x => x = b) (Av.setCell (T := fun x => x = b) (Av.setCell (T := fun x => x = b) (Av.refl (fun x => x = b) w) (fun _ => rfl) v0) (fun _ => rfl) v1) (fun _ => rfl) v2) (fun _ => rfl) v3) (fun _ => rfl) v4) (fun _ => rfl) v5) (fun _ => rfl) v6
theorem Ah.upd' {T S : Nat → Prop} {w w' : World} {v : Value} {l : List Obj} (h : Ah S w v l) (hu : Av T w w') (hT : ∀ b, S b → ¬ T b) : Ah S w' v l := by
 have := (h.lt).same (w' := w') fun b hb => hu.block b hb.2 (hT b hb.1)
 exact this.weaken fun b hb => hb.1
theorem AE.lt {S : Nat → Prop} {w : World} {v : Value} {l : List Rf} (h : AE S w v l) : AE (fun b => S b ∧ b < w.heap.size) w v l := by
 obtain ⟨⟨a, cap, hv, h1, h2, h3, h4⟩, h5⟩ := h
 refine ⟨⟨a, cap, hv, h1, h2, h3, fun hn => ?_⟩, h5⟩
 obtain ⟨b, off, ha, hS, hc⟩ := h4 hn
 exact ⟨b, off, ha, ⟨hS, World.block_lt_of_cell? w _ (hc 0 hn 0 _ rfl)⟩, hc⟩
theorem AE.upd {T S : Nat → Prop} {w w' : World} {v : Value} {l : List Rf} (h : AE S w v l) (hu : Av T w w') (hT : ∀ b, S b → ¬ T b) : AE S w' v l := by
 have := (h.lt).same (w' := w') fun b hb => hu.block b hb.2 (hT b hb.1)
 exact this.weaken fun b hb => hb.1
theorem AM.lt {S : Nat → Prop} {w : World} {v : Value} {l : List Mv} (h : AM S w v l) : AM (fun b => S b ∧ b < w.heap.size) w v l := by
 obtain ⟨⟨a, cap, hv, h1, h2, h3, h4⟩, h5⟩ := h
 refine ⟨⟨a, cap, hv, h1, h2, h3, fun hn => ?_⟩, h5⟩
 obtain ⟨b, off, ha, hS, hc⟩ := h4 hn
 exact ⟨b, off, ha, ⟨hS, World.block_lt_of_cell? w _ (hc 0 hn 0 _ rfl)⟩, hc⟩
theorem AM.upd {T S : Nat → Prop} {w w' : World} {v : Value} {l : List Mv} (h : AM S w v l) (hu : Av T w w') (hT : ∀ b, S b → ¬ T b) : AM S w' v l := by
 have := (h.lt).same (w' := w') fun b hb => hu.block b hb.2 (hT b hb.1)
 exact this.weaken fun b hb => hb.1
def TT (b : Nat) (v0 v1 v2 : Value) (w : World) : World := ((w.setCell ⟨b, 0, none⟩ v0).setCell ⟨b, 1, none⟩ v1).setCell ⟨b, 2, none⟩ v2
theorem Tr {b : Nat} {v0 v1 v2 u0 u1 u2 : Value} {t : TypeId} {w : World} (h0 : w.heap[b]? = some (.cells #[u0, u1, u2] t (0, 0))) :
  (TT b v0 v1 v2 w).heap[b]? = some (.cells #[v0, v1, v2] t (0, 0)) := by
 have s0 : (w.setCell ⟨b, 0, none⟩ v0).heap[b]? = some (.cells #[v0, u1, u2] t (0, 0)) := by have := Ad (j := 0) h0 v0; simpa using this
 have s1 : ((w.setCell ⟨b, 0, none⟩ v0).setCell ⟨b, 1, none⟩ v1).heap[b]? = some (.cells #[v0, v1, u2] t (0, 0)) := by have := Ad (j := 1) s0 v1; simpa using this
 have s2 : (((w.setCell ⟨b, 0, none⟩ v0).setCell ⟨b, 1, none⟩ v1).setCell ⟨b, 2, none⟩ v2).heap[b]? = some (.cells #[v0, v1, v2] t (0, 0)) := by have := Ad (j := 2) s1 v2; simpa using this
 exact s2
theorem QQ (b : Nat) (v0 v1 v2 : Value) (w : World) : Av (fun x => x = b) w (TT b v0 v1 v2 w) :=
 Av.setCell (T := fun x => x = b) (Av.setCell (T := fun x => x = b) (Av.setCell (T := fun x => x = b) (Av.refl (fun x => x = b) w) (fun _ => rfl) v0) (fun _ => rfl) v1) (fun _ => rfl) v2
theorem Pm (w : World) (l : List Mv) (t : TypeId) (N : Nat) (hN : N = w.heap.size) (hl : l.length * 32 ≤ 140737488351232) (h : ∀ u ∈ l, DL u.old ∧ DL u.new ∧ u.name.size ≤ 140737488351232) :
  AM (fun b => b = N) (w.alloc (.cells (AN (fun i => Bo (mv l i)) l.length).toArray t)) (.slice (some ⟨N, 0, none⟩) l.length l.length) l :=
 ⟨VQ w _ 3 32 _ t N hN (fun _ _ => rfl) hl (by omega), h⟩
theorem Ah.shape3 {S : Nat → Prop} {w : World} {v : Value} {l : List Obj} (h : Ah S w v l) : ∃ a n c, v = .slice a n c := let ⟨a, c, e⟩ := h.vshape; ⟨a, _, c, e⟩
theorem AM.shape3 {S : Nat → Prop} {w : World} {v : Value} {l : List Mv} (h : AM S w v l) : ∃ a n c, v = .slice a n c := let ⟨p, e⟩ := h.shape; ⟨p.1, _, p.2, e⟩
def n5 : ByteArray := ⟨#[110, 111, 32, 53]⟩
theorem VK (p : World → Prop) {x : World} (h : p x) : ∃ C : World → Prop, In C x ∧ (∀ z, In C z → p z) ∧ (∀ z, p z → In C z) := ⟨p, h, fun _ h => h, fun _ h => h⟩
theorem Tryz.infoStr : (Tryz.prog.info? 9).map (fun i => (i.zero, i.size, i.bytes)) = some (some (.string ⟨#[]⟩), 1, 16) := by kernel_rfl
theorem Vh {x : World} {B N : Nat} {v : Value} {l : List ByteArray} (h : x.ownsRow B 9 1 v N (l.map Value.string)) (hN : N = l.length) (hi : ∀ s ∈ l, s.size ≤ 140737488351232) (hb : N * 16 ≤ 140737488351232) : CZ (fun b => B ≤ b) x v l := by
 subst hN
 refine ⟨GN h (fun g hg => (h.lt g hg).1) (by omega) (fun i hn j u hu => ?_), hi⟩
 match j, hu with
 | 0, hu =>
  simp at hu; subst hu
  simp [MQ hn, hn]
theorem CZ.bytes {S : Nat → Prop} {w : World} {v : Value} {l : List ByteArray} (h : CZ S w v l) : l.length * 16 ≤ 140737488351232 := by obtain ⟨⟨_, _, _, _, _, h, _⟩, _⟩ := h; exact h
theorem Uv {n : Int} (h : CL n) : (AS n).size = 1 := by
 obtain ⟨h0, h1⟩ := h
 have : n = 0 ∨ n = 1 ∨ n = 2 ∨ n = 3 ∨ n = 4 ∨ n = 5 ∨ n = 6 ∨ n = 7 ∨ n = 8 ∨ n = 9 := by omega
 rcases this with rfl | rfl | rfl | rfl | rfl | rfl | rfl | rfl | rfl | rfl <;> decide +kernel
theorem Tn {r : An} {p : BJ} (h : Bn r p ≠ 0) : (Cu r p).size = 4 := by
 unfold Cu; rw [if_pos h]
 rw [ByteArray.size_append, Uv (HQ r p)]; rfl
theorem Wr {r : An} {p : BJ} (h : Bn r p = 0) : 4 < (Cu r p).size ∧ ((Cu r p).extract 0 4).toList = [121, 101, 115, 32] := by
 unfold Cu; rw [if_neg (by simpa using h)]
 generalize AS r.gen = ds
 generalize Fb p.updates = tx
 have hs : (MM ++ ds ++ WU ++ tx).size = 4 + ds.size + 1 + tx.size := by
  rw [ByteArray.size_append, ByteArray.size_append, ByteArray.size_append]; rfl
 refine ⟨by omega, ?_⟩
 have e : (MM ++ ds ++ WU ++ tx).extract 0 4 = MM := by
  apply ByteArray.ext
  rw [ByteArray.data_extract, ByteArray.data_append, ByteArray.data_append, ByteArray.data_append]
  apply Array.toList_inj.1
  rw [Array.toList_extract, Array.toList_append, Array.toList_append, Array.toList_append]
  rfl
 rw [e]; decide +kernel
end Go.Proofs.YtjdgpgfiomnjkaaGreatDoor
namespace Go.Proofs.YtjdgpgfiomnjkaaGreatDoor
def Mj (m : List Obj) (o : Obj) : Bool := !CK m o.id
def II (l m : List Obj) : List Obj := l.filter (Mj m)
def CY (l m : List Obj) (k : Nat) : List Obj := (l.take k).filter (Mj m)
def DZ (l m : List Obj) (k : Nat) : Int := if CK m (obj l k).id = true ∧ By (obj l k) (obj m (lo m (obj l k).id)) = false then 6 else 0
def Ey (l m : List Obj) : Int := Ap (DZ l m) l.length
def CC (l m : List Obj) : List Obj := if Ey l m = 0 then II l m else []
def Tv (l m : List Obj) : Int := if Ag l ≠ 0 then Ag l else if Ag m ≠ 0 then Ag m else Ey l m
def XU (l m : List Obj) : List Obj := if Tv l m = 0 then II l m else []
theorem Rv (l m : List Obj) : CY l m 0 = [] := rfl
theorem KN {l m : List Obj} {k : Nat} (hk : k < l.length) (h : CK m (obj l k).id = true) : CY l m (k + 1) = CY l m k := by
 unfold CY Mj
 rw [Gi hk, List.filter_append]
 simp [h]
theorem MJ {l m : List Obj} {k : Nat} (hk : k < l.length) (h : CK m (obj l k).id = false) : CY l m (k + 1) = CY l m k ++ [obj l k] := by
 unfold CY Mj
 rw [Gi hk, List.filter_append]
 simp [h]
theorem Ml (l m : List Obj) : CY l m l.length = II l m := by unfold CY II; rw [List.take_length]
theorem Jl (l m : List Obj) (k : Nat) : (CY l m k).length ≤ k := by
 unfold CY
 have h1 := List.length_filter_le (Mj m) (l.take k)
 rw [List.length_take] at h1; omega
theorem GP (l m : List Obj) : (II l m).length ≤ l.length := List.length_filter_le _ _
theorem Rt {l m : List Obj} {x : Obj} : x ∈ II l m ↔ x ∈ l ∧ CK m x.id = false := by
 unfold II Mj; rw [List.mem_filter]; simp
theorem LM {l m : List Obj} {k : Nat} (h : CK m (obj l k).id = false) : DZ l m k = 0 := by unfold DZ; rw [if_neg (by simp [h])]
theorem Kf {l m : List Obj} {k : Nat} (h : By (obj l k) (obj m (lo m (obj l k).id)) = true) : DZ l m k = 0 := by unfold DZ; rw [if_neg (by simp [h])]
theorem Ji {l m : List Obj} {k : Nat} (h : CK m (obj l k).id = true) (h2 : By (obj l k) (obj m (lo m (obj l k).id)) = false) : DZ l m k = 6 := by unfold DZ; rw [if_pos ⟨h, h2⟩]
theorem ON {l m : List Obj} : Ey l m = 0 ↔ ∀ x ∈ l, CK m x.id = true → obj m (lo m x.id) = x := by
 unfold Ey
 constructor
 ·intro h x hx hat
  obtain ⟨i, hi, rfl⟩ := GX hx
  have := Bh h i hi
  cases hs : By (obj l i) (obj m (lo m (obj l i).id))
  ·rw [Ji hat hs] at this; cases this
  ·exact ((DB _ _).1 hs).symm
 ·intro h
  refine AW fun k hk => ?_
  cases hat : CK m (obj l k).id
  ·exact LM hat
  ·exact Kf ((DB _ _).2 (h _ (FN hk) hat).symm)
theorem WY {l : List Obj} (h : Ag l = 0) {x : Obj} (hx : x ∈ l) {k : Nat} (hk : k < x.links.length) : ∃ y ∈ l, y.id < x.id ∧ y.id = Cm x.links k ∧ Ba x k y.kind = 0 := by
 obtain ⟨i, hi, rfl⟩ := GX hx
 obtain ⟨j, hj, hid, hk2⟩ := (Gx h).linked hi hk
 exact ⟨obj l j, FN (by omega), AR h j i hj hi, hid, hk2⟩
theorem Yo {u v : Mv} (h1 : u.name = v.name) (h2 : u.old = v.old) (h3 : u.new = v.new) : u = v := by cases u; cases v; cases h1; cases h2; cases h3; rfl
end Go.Proofs.YtjdgpgfiomnjkaaGreatDoor
namespace Go.Proofs.YtjdgpgfiomnjkaaGreatDoor
open Go.RowKit
def GB (a b : Mv) : Bool := (a.name.toList == b.name.toList) && (a.old == b.old) && (a.new == b.new)
theorem Na (a b : Mv) : GB a b = true ↔ a = b := by
 unfold GB
 simp only [Bool.and_eq_true, beq_iff_eq]
 constructor
 ·rintro ⟨⟨h1, h2⟩, h3⟩
  exact Yo (by have := (BE a.name b.name); rw [h1] at this; simpa using this) h2 h3
 ·rintro rfl; exact ⟨⟨rfl, rfl⟩, rfl⟩
theorem SY (a b : Mv) (w : World) : (binOp .neq 107 (.agg #[.string a.name, .int .i64 a.old, .int .i64 a.new]) (.agg #[.string b.name, .int .i64 b.old, .int .i64 b.new])).run Tryz.prog w = .ok (.bool !GB a b) w := by
 have hS : Tryz.prog.underlying 107 = some (.struct (Tryz.prog.fieldsOf 107)) := by kernel_rfl
 have hp : Tryz.prog.stoodInHeld 107 = false := by kernel_rfl
 have u9 := Tryz.underlying9
 have u3 := Tryz.underlying3
 rw [run_neq_struct, show (10000 : Nat) = 9999 + 1 from rfl, run_equalIn_agg w 9999 107 _ _ hS hp]
 simp only [Program.fieldsOf, Tryz.underlying107]
 unfold GB
 go_simp
 by_cases h1 : a.name.toList = b.name.toList <;> by_cases h2 : a.old = b.old <;> by_cases h3 : a.new = b.new <;> simp [h1, h2, h3]
def DH (xs ys : List Mv) : Bool := decide (xs.length = ys.length) && (List.range xs.length).all fun k => GB (mv xs k) (mv ys k)
theorem LC (xs ys : List Mv) : DH xs ys = true ↔ xs = ys := by
 unfold DH
 simp only [Bool.and_eq_true, decide_eq_true_eq, List.all_eq_true, List.mem_range, Na]
 constructor
 ·rintro ⟨h1, h2⟩
  apply List.ext_getElem h1
  intro i hi hi2
  have := h2 i hi
  rwa [CW hi, CW hi2] at this
 ·rintro rfl; exact ⟨rfl, fun _ _ => rfl⟩
theorem QI {xs ys : List Mv} (h : xs.length ≠ ys.length) : DH xs ys = false := by unfold DH; simp [h]
theorem RK {xs ys : List Mv} {k : Nat} (hk : k < xs.length) (h : GB (mv xs k) (mv ys k) = false) : DH xs ys = false := by
 cases e : DH xs ys
 ·rfl
 ·rw [LC] at e
  subst e
  rw [(Na _ _).2 rfl] at h; cases h
theorem Rc {xs ys : List Mv} (hl : xs.length = ys.length) (h : ∀ k, k < xs.length → GB (mv xs k) (mv ys k) = true) : DH xs ys = true := by
 unfold DH
 simp only [Bool.and_eq_true, decide_eq_true_eq, List.all_eq_true, List.mem_range]
 exact ⟨hl, h⟩
theorem LY (xs ys : List Mv) (v v' : Value) (S S' : Nat → Prop) (w : World) (h1 : AM S w v xs) (h2 : AM S' w v' ys) :
  Calls Tryz.prog 66 #[v, v'] w fun e w' => e = .returned (.bool (DH xs ys)) ∧ Below w.heap.size w w' := by
 obtain ⟨a, n, cap, HN, rfl, hc1, hc2, hc8, hc⟩ := h1.open
 obtain ⟨a', n', cap', HN', rfl, hc1', hc2', hc8', hc'⟩ := h2.open
 obtain ⟨R, hR, hR1, _⟩ := Ay w
 have hRb := hR.below
 have hRn := hR.drewN
 by_cases hl : n = n'
 ·subst hl
  have Hall := zh (Rc (xs := xs) (ys := ys) (by rw [← HN.out, ← HN'.out]))
  go_enter Tryz.func66, Tryz.ntmps66
  go_wp2
  go_loopw [5] (fun i wr => ∃ k : Nat, k ≤ n ∧ i = .int .i64 k ∧ Hid (∀ j, j < k → GB (mv xs j) (mv ys j) = true) ∧ In R wr) (fun i _ => n - (intOf i).toNat)
  case atStart => exact ⟨0, by omega, rfl, fun j hj => absurd hj (by omega), hR1⟩
  obtain ⟨k, hk, rfl, Hs, hRw⟩ := hrel
  clear hR1
  by_cases hlt : k < n
  ·obtain ⟨b, off, rfl, hb, k0, k1, k2⟩ := hc (by omega)
   obtain ⟨b', off', rfl, hb', k0', k1', k2'⟩ := hc' (by omega)
   have x0 : ∀ x, In R x → x.cell? ⟨b, off + k * 3, none⟩ = some (.string (mv xs k).name) := fun x hx => k0 k x hlt (hRb x hx)
   have x1 : ∀ x, In R x → x.cell? ⟨b, off + k * 3 + 1, none⟩ = some (.int .i64 (mv xs k).old) := fun x hx => k1 k x hlt (hRb x hx)
   have x2 : ∀ x, In R x → x.cell? ⟨b, off + k * 3 + 2, none⟩ = some (.int .i64 (mv xs k).new) := fun x hx => k2 k x hlt (hRb x hx)
   have x0' : ∀ x, In R x → x.cell? ⟨b', off' + k * 3, none⟩ = some (.string (mv ys k).name) := fun x hx => k0' k x hlt (hRb x hx)
   have x1' : ∀ x, In R x → x.cell? ⟨b', off' + k * 3 + 1, none⟩ = some (.int .i64 (mv ys k).old) := fun x hx => k1' k x hlt (hRb x hx)
   have x2' : ∀ x, In R x → x.cell? ⟨b', off' + k * 3 + 2, none⟩ = some (.int .i64 (mv ys k).new) := fun x hx => k2' k x hlt (hRb x hx)
   clear hc hc' k0 k1 k0' k1' k2 k2'
   have hi1 : (0 : Int) ≤ (k : Int) := by omega
   have hi2 : (k : Int) < (n : Int) := by omega
   have hneq := SY (mv xs k) (mv ys k)
   cases he : GB (mv xs k) (mv ys k)
   ·rw [he] at hneq
    have Hq := zh (RK (xs := xs) (ys := ys) (k := k) (by rw [← HN.out]; exact hlt) he); clear he
    go_wp2_with fail
    go_quiet (fail)
    go_wp2
    go_ret
    exact ⟨by rw [Hq.out]; rfl, hRb _ (hRn _ _ hRw)⟩
   ·rw [he] at hneq
    have He := zh he; clear he
    go_wp2_with fail
    go_quiet (fail)
    go_wp2
    go_roundw
    case rel => exact ⟨k + 1, by omega, by go_num, Bp Hs.out He.out, hRn _ _ hRw⟩
    case measure => simp [intOf]; omega
  ·have Hk := zh (show DH xs ys = true from Hall.out (fun j hj => Hs.out j (by have := HN.out; omega)))
   go_wp2
   go_ret
   exact ⟨by rw [Hk.out]; rfl, hRb _ hRw⟩
 ·have Hl := zh (QI (xs := xs) (ys := ys) (by rw [← HN.out, ← HN'.out]; exact hl))
  go_enter Tryz.func66, Tryz.ntmps66
  go_wp2
  go_ret
  exact ⟨by rw [Hl.out]; rfl, hRb _ hR1⟩
def BK (p : BJ) : Bool := decide (p.objects.length = 0) && decide (p.updates.length = 0) && !p.force
def Al (r : An) : Int := if Aq r.refs r.store ≠ 0 then Aq r.refs r.store else if within r.gen 0 999 = false then 3 else if within r.phase 0 2 = false then 7 else if r.phase ≠ 0 then As r.pend else if BK r.pend = true then 0 else 1
def Fo (a b : BJ) : Bool := BQ a.objects b.objects && DH a.updates b.updates && (a.force == b.force)
theorem Fa (a b : BJ) : Fo a b = true ↔ a = b := by
 unfold Fo
 rw [Bool.and_eq_true, Bool.and_eq_true, Gh, LC, beq_iff_eq]
 constructor
 ·rintro ⟨⟨h1, h2⟩, h3⟩; cases a; cases b; simp_all
 ·rintro rfl; exact ⟨⟨rfl, rfl⟩, rfl⟩
theorem Kl (p : BJ) : Fo p CX = BK p := by
 rw [Bool.eq_iff_iff, Fa]
 unfold BK
 obtain ⟨l, us, f⟩ := p
 cases f <;> simp [CX, List.length_eq_zero_iff]
def EV (a b : An) : Bool := BQ a.store b.store && Bu a.refs b.refs && (a.gen == b.gen) && (a.phase == b.phase) && Fo a.pend b.pend
theorem LG (a b : An) : EV a b = true ↔ a = b := by
 unfold EV
 rw [Bool.and_eq_true, Bool.and_eq_true, Bool.and_eq_true, Bool.and_eq_true, Gh, Ep, beq_iff_eq, beq_iff_eq, Fa]
 constructor
 ·rintro ⟨⟨⟨⟨h1, h2⟩, h3⟩, h4⟩, h5⟩; cases a; cases b; simp_all
 ·rintro rfl; exact ⟨⟨⟨⟨rfl, rfl⟩, rfl⟩, rfl⟩, rfl⟩
theorem KG (r : An) (sv rv ov uv : Value) (S : Nat → Prop) (w : World) (h : AH S w r sv rv ov uv) :
  Calls Tryz.prog 56 #[Bf r sv rv ov uv] w fun e w' => e = .returned (.int .i64 (Al r)) ∧ Below w.heap.size w w' := by
 have HR := zh (show Al r = if Aq r.refs r.store ≠ 0 then Aq r.refs r.store else if within r.gen 0 999 = false then 3 else if within r.phase 0 2 = false then 7 else if r.phase ≠ 0 then As r.pend else if BK r.pend = true then 0 else 1 from rfl)
 have H := zh h
 obtain ⟨sa, sc, rfl⟩ := h.store.vshape
 obtain ⟨⟨ra, rc⟩, rfl⟩ := h.refs.shape
 obtain ⟨oa, oc, rfl⟩ := h.objs.vshape
 obtain ⟨⟨ua, uc⟩, rfl⟩ := h.upds.shape
 clear h
 simp only [Bf]
 obtain ⟨Q, hQ, hQ1, hy⟩ := BW w #[.slice sa r.store.length sc, .slice ra r.refs.length rc, .int .i64 r.gen, .int .i64 r.phase, .slice oa r.pend.objects.length oc, .slice ua r.pend.updates.length uc, .bool r.pend.force] 28
 have y0 := hy 0 _ rfl
 have y1 := hy 1 _ rfl
 have y2 := hy 2 _ rfl
 have y3 := hy 3 _ rfl
 have y4 := hy 4 _ rfl
 have y5 := hy 5 _ rfl
 have y6 := hy 6 _ rfl
 have hQb := hQ.below
 have hQn := hQ.next
 have HC := zh (fun x (hx : In Q x) => Ow r.refs r.store _ _ _ _ x (H.out.refs.below (hQb _ hx)) (H.out.store.below (hQb _ hx)))
 have HP := zh (fun x (hx : In Q x) => FV r.pend _ _ _ _ x (H.out.objs.below (hQb _ hx)) (H.out.upds.below (hQb _ hx)))
 clear hy
 have y01 := y0 _ hQ1
 have y11 := y1 _ hQ1
 by_cases e1 : Aq r.refs r.store = 0
 case neg =>
  have HF := zh (show Al r = Aq r.refs r.store by rw [HR.out, if_pos e1])
  have hq : (Aq r.refs r.store != 0) = true := by simpa using e1
  clear e1 HR
  generalize Aq r.refs r.store = c at *
  go_enter Tryz.func56, Tryz.ntmps56
  go_wp2_with fail
  refine (HC.out _ hQ1).mono ?_
  rintro e w1 ⟨rfl, hb1⟩
  have hQ2 := hQn _ _ hQ1 hb1
  clear hb1 y01 y11 hQ1
  go_wp2_with fail
  go_ret
  exact ⟨Ae HF.out.symm, hQb _ hQ2⟩
 rw [if_neg (by simpa using e1)] at HR
 rw [e1] at HC
 clear e1
 by_cases egenlo : r.gen < 0
 case pos =>
  have HF := zh (show Al r = 3 by rw [HR.out, if_pos (by unfold within; simp; omega)])
  have hd : decide (r.gen < 0) = true := decide_eq_true egenlo
  clear HR
  go_enter Tryz.func56, Tryz.ntmps56
  go_wp2_with fail
  refine (HC.out _ hQ1).mono ?_
  rintro e w1 ⟨rfl, hb1⟩
  have hQ2 := hQn _ _ hQ1 hb1
  have y22 := y2 _ hQ2
  have y32 := y3 _ hQ2
  have y42 := y4 _ hQ2
  have y52 := y5 _ hQ2
  have y62 := y6 _ hQ2
  clear hb1 y01 y11 hQ1
  go_wp2_with fail
  go_ret
  exact ⟨Ae HF.out.symm, hQb _ hQ2⟩
 by_cases egenhi : 999 < r.gen
 case pos =>
  have HF := zh (show Al r = 3 by rw [HR.out, if_pos (by unfold within; simp; omega)])
  have hd : decide (r.gen < 0) = false := decide_eq_false egenlo
  have hd2 : decide (999 < r.gen) = true := decide_eq_true egenhi
  clear HR
  go_enter Tryz.func56, Tryz.ntmps56
  go_wp2_with fail
  refine (HC.out _ hQ1).mono ?_
  rintro e w1 ⟨rfl, hb1⟩
  have hQ2 := hQn _ _ hQ1 hb1
  have y22 := y2 _ hQ2
  have y32 := y3 _ hQ2
  have y42 := y4 _ hQ2
  have y52 := y5 _ hQ2
  have y62 := y6 _ hQ2
  clear hb1 y01 y11 hQ1
  go_wp2_with fail
  go_ret
  exact ⟨Ae HF.out.symm, hQb _ hQ2⟩
 rw [if_neg (by unfold within; simp; omega)] at HR
 have hg1 : decide (r.gen < 0) = false := decide_eq_false egenlo
 have hg2 : decide (999 < r.gen) = false := decide_eq_false egenhi
 by_cases ephaselo : r.phase < 0
 case pos =>
  have HF := zh (show Al r = 7 by rw [HR.out, if_pos (by unfold within; simp; omega)])
  have hd : decide (r.phase < 0) = true := decide_eq_true ephaselo
  clear HR
  go_enter Tryz.func56, Tryz.ntmps56
  go_wp2_with fail
  refine (HC.out _ hQ1).mono ?_
  rintro e w1 ⟨rfl, hb1⟩
  have hQ2 := hQn _ _ hQ1 hb1
  have y22 := y2 _ hQ2
  have y32 := y3 _ hQ2
  have y42 := y4 _ hQ2
  have y52 := y5 _ hQ2
  have y62 := y6 _ hQ2
  clear hb1 y01 y11 hQ1
  go_wp2_with fail
  go_ret
  exact ⟨Ae HF.out.symm, hQb _ hQ2⟩
 by_cases ephasehi : 2 < r.phase
 case pos =>
  have HF := zh (show Al r = 7 by rw [HR.out, if_pos (by unfold within; simp; omega)])
  have hd : decide (r.phase < 0) = false := decide_eq_false ephaselo
  have hd2 : decide (2 < r.phase) = true := decide_eq_true ephasehi
  clear HR
  go_enter Tryz.func56, Tryz.ntmps56
  go_wp2_with fail
  refine (HC.out _ hQ1).mono ?_
  rintro e w1 ⟨rfl, hb1⟩
  have hQ2 := hQn _ _ hQ1 hb1
  have y22 := y2 _ hQ2
  have y32 := y3 _ hQ2
  have y42 := y4 _ hQ2
  have y52 := y5 _ hQ2
  have y62 := y6 _ hQ2
  clear hb1 y01 y11 hQ1
  go_wp2_with fail
  go_ret
  exact ⟨Ae HF.out.symm, hQb _ hQ2⟩
 rw [if_neg (by unfold within; simp; omega)] at HR
 have hp1 : decide (r.phase < 0) = false := decide_eq_false ephaselo
 have hp2 : decide (2 < r.phase) = false := decide_eq_false ephasehi
 by_cases e3 : r.phase = 0
 case neg =>
  have HF := zh (show Al r = As r.pend by rw [HR.out, if_pos e3])
  have hq : (r.phase != 0) = true := by simpa using e3
  have hd : decide (0 < r.phase) = true := decide_eq_true (by omega)
  clear HR e3
  go_enter Tryz.func56, Tryz.ntmps56
  go_wp2_with fail
  refine (HC.out _ hQ1).mono ?_
  rintro e w1 ⟨rfl, hb1⟩
  have hQ2 := hQn _ _ hQ1 hb1
  have y22 := y2 _ hQ2
  have y32 := y3 _ hQ2
  have y42 := y4 _ hQ2
  have y52 := y5 _ hQ2
  have y62 := y6 _ hQ2
  clear hb1 y01 y11 hQ1
  go_wp2_with fail
  refine (HP.out _ hQ2).mono ?_
  rintro e w3 ⟨rfl, hb3⟩
  have hQ3 := hQn _ _ hQ2 hb3
  go_wp2_with fail
  go_ret
  exact ⟨Ae HF.out.symm, hQb _ hQ3⟩
 rw [if_neg (by simpa using e3)] at HR
 have hq : (r.phase != 0) = false := by simpa using e3
 have hd : decide (0 < r.phase) = false := decide_eq_false (by omega)
 clear e3 HP
 generalize hnp : r.pend.objects.length = np at *
 generalize hnu : r.pend.updates.length = nu at *
 by_cases f1 : np = 0
 case neg =>
  have HF := zh (show Al r = 1 by rw [HR.out, if_neg (by unfold BK; rw [hnp, hnu]; simp; omega)])
  clear HR
  go_enter Tryz.func56, Tryz.ntmps56
  go_wp2_with fail
  refine (HC.out _ hQ1).mono ?_
  rintro e w1 ⟨rfl, hb1⟩
  have hQ2 := hQn _ _ hQ1 hb1
  have y22 := y2 _ hQ2
  have y32 := y3 _ hQ2
  have y42 := y4 _ hQ2
  have y52 := y5 _ hQ2
  have y62 := y6 _ hQ2
  clear hb1 y01 y11 hQ1
  go_wp2_with fail
  go_ret
  exact ⟨Ae HF.out.symm, hQb _ hQ2⟩
 subst f1
 by_cases f2 : nu = 0
 case neg =>
  have HF := zh (show Al r = 1 by rw [HR.out, if_neg (by unfold BK; rw [hnp, hnu]; simp; omega)])
  clear HR
  go_enter Tryz.func56, Tryz.ntmps56
  go_wp2_with fail
  refine (HC.out _ hQ1).mono ?_
  rintro e w1 ⟨rfl, hb1⟩
  have hQ2 := hQn _ _ hQ1 hb1
  have y22 := y2 _ hQ2
  have y32 := y3 _ hQ2
  have y42 := y4 _ hQ2
  have y52 := y5 _ hQ2
  have y62 := y6 _ hQ2
  clear hb1 y01 y11 hQ1
  go_wp2_with fail
  go_ret
  exact ⟨Ae HF.out.symm, hQb _ hQ2⟩
 subst f2
 cases f3 : r.pend.force
 ·have HF := zh (show Al r = 0 by rw [HR.out]; unfold BK; rw [hnp, hnu, f3]; simp)
  rw [f3] at y6 hQ1 y01 y11
  clear HR
  go_enter Tryz.func56, Tryz.ntmps56
  go_wp2_with fail
  refine (HC.out _ hQ1).mono ?_
  rintro e w1 ⟨rfl, hb1⟩
  have hQ2 := hQn _ _ hQ1 hb1
  have y22 := y2 _ hQ2
  have y32 := y3 _ hQ2
  have y42 := y4 _ hQ2
  have y52 := y5 _ hQ2
  have y62 := y6 _ hQ2
  clear hb1 y01 y11 hQ1
  go_wp2_with fail
  go_ret
  exact ⟨Ae HF.out.symm, hQb _ hQ2⟩
 ·have HF := zh (show Al r = 1 by rw [HR.out]; unfold BK; rw [hnp, hnu, f3]; simp)
  rw [f3] at y6 hQ1 y01 y11
  clear HR
  go_enter Tryz.func56, Tryz.ntmps56
  go_wp2_with fail
  refine (HC.out _ hQ1).mono ?_
  rintro e w1 ⟨rfl, hb1⟩
  have hQ2 := hQn _ _ hQ1 hb1
  have y22 := y2 _ hQ2
  have y32 := y3 _ hQ2
  have y42 := y4 _ hQ2
  have y52 := y5 _ hQ2
  have y62 := y6 _ hQ2
  clear hb1 y01 y11 hQ1
  go_wp2_with fail
  go_ret
  exact ⟨Ae HF.out.symm, hQb _ hQ2⟩
theorem GS (p q : BJ) (ov uv ov2 uv2 : Value) (S S' : Nat → Prop) (w : World) (ho : Ah S w ov p.objects) (hu : AM S w uv p.updates) (ho2 : Ah S' w ov2 q.objects) (hu2 : AM S' w uv2 q.updates) :
  Calls Tryz.prog 33 #[EH p ov uv, EH q ov2 uv2] w fun e w' => e = .returned (.bool (Fo p q)) ∧ Below w.heap.size w w' := by
 have HD := zh (show Fo p q = (BQ p.objects q.objects && DH p.updates q.updates && (p.force == q.force)) from rfl)
 have Ho := zh ho
 have Hu := zh hu
 have Ho2 := zh ho2
 have Hu2 := zh hu2
 obtain ⟨oa, oc, rfl⟩ := ho.vshape
 obtain ⟨⟨ua, uc⟩, rfl⟩ := hu.shape
 obtain ⟨oa2, oc2, rfl⟩ := ho2.vshape
 obtain ⟨⟨ua2, uc2⟩, rfl⟩ := hu2.shape
 clear ho hu ho2 hu2
 simp only [EH]
 obtain ⟨Q, hQ, hQ1, hy, hz⟩ := IZ w #[.slice oa p.objects.length oc, .slice ua p.updates.length uc, .bool p.force] #[.slice oa2 q.objects.length oc2, .slice ua2 q.updates.length uc2, .bool q.force] 26 26
 have hQb := hQ.below
 have hQn := hQ.next
 have H1 := zh (fun x (hx : In Q x) => Jz p.objects q.objects _ _ _ _ x (Ho.out.below (hQb _ hx)) (Ho2.out.below (hQb _ hx)))
 have H2 := zh (fun x (hx : In Q x) => LY p.updates q.updates _ _ _ _ x (Hu.out.below (hQb _ hx)) (Hu2.out.below (hQb _ hx)))
 have y0 := hy 0 _ rfl _ hQ1
 have z0 := hz 0 _ rfl _ hQ1
 have y1 := hy 1 _ rfl
 have z1 := hz 1 _ rfl
 have y2 := hy 2 _ rfl
 have z2 := hz 2 _ rfl
 clear hy hz
 cases s1 : BQ p.objects q.objects
 ·rw [s1] at H1 HD
  go_enter Tryz.func33, Tryz.ntmps33
  go_wp2_with fail
  refine (H1.out _ hQ1).mono ?_
  rintro e w1 ⟨rfl, hb1⟩
  have hQ2 := hQn _ _ hQ1 hb1
  go_wp2_with fail
  go_ret
  exact ⟨by rw [HD.out]; rfl, hQb _ hQ2⟩
 ·rw [s1] at H1 HD
  cases s2 : DH p.updates q.updates
  ·rw [s2] at H2 HD
   go_enter Tryz.func33, Tryz.ntmps33
   go_wp2_with fail
   refine (H1.out _ hQ1).mono ?_
   rintro e w1 ⟨rfl, hb1⟩
   have hQ2 := hQn _ _ hQ1 hb1
   have y12 := y1 _ hQ2
   have z12 := z1 _ hQ2
   go_wp2_with fail
   refine (H2.out _ hQ2).mono ?_
   rintro e w2 ⟨rfl, hb2⟩
   have hQ3 := hQn _ _ hQ2 hb2
   go_wp2_with fail
   go_ret
   exact ⟨by rw [HD.out]; rfl, hQb _ hQ3⟩
  ·rw [s2] at H2 HD
   go_enter Tryz.func33, Tryz.ntmps33
   go_wp2_with fail
   refine (H1.out _ hQ1).mono ?_
   rintro e w1 ⟨rfl, hb1⟩
   have hQ2 := hQn _ _ hQ1 hb1
   have y12 := y1 _ hQ2
   have z12 := z1 _ hQ2
   go_wp2_with fail
   refine (H2.out _ hQ2).mono ?_
   rintro e w2 ⟨rfl, hb2⟩
   have hQ3 := hQn _ _ hQ2 hb2
   have y23 := y2 _ hQ3
   have z23 := z2 _ hQ3
   go_wp2_with fail
   go_ret
   exact ⟨by rw [HD.out]; rfl, hQb _ hQ3⟩
theorem KY (r : An) (sv rv ov uv : Value) (S : Nat → Prop) (w : World) (h : AH S w r sv rv ov uv) :
  Calls Tryz.prog 102 #[Bf r sv rv ov uv] w fun e w' => e = .returned (.int .i64 (Al r)) ∧ Below w.heap.size w w' := by
 have HR := zh (show Al r = if Aq r.refs r.store ≠ 0 then Aq r.refs r.store else if within r.gen 0 999 = false then 3 else if within r.phase 0 2 = false then 7 else if r.phase ≠ 0 then As r.pend else if BK r.pend = true then 0 else 1 from rfl)
 have H := zh h
 obtain ⟨sa, sc, rfl⟩ := h.store.vshape
 obtain ⟨⟨ra, rc⟩, rfl⟩ := h.refs.shape
 obtain ⟨oa, oc, rfl⟩ := h.objs.vshape
 obtain ⟨⟨ua, uc⟩, rfl⟩ := h.upds.shape
 clear h
 simp only [Bf]
 obtain ⟨Q, hQ, hQ1, hy⟩ := BW w #[.slice sa r.store.length sc, .slice ra r.refs.length rc, .int .i64 r.gen, .int .i64 r.phase, .slice oa r.pend.objects.length oc, .slice ua r.pend.updates.length uc, .bool r.pend.force] 28
 have y0 := hy 0 _ rfl
 have y1 := hy 1 _ rfl
 have y2 := hy 2 _ rfl
 have y3 := hy 3 _ rfl
 have y4 := hy 4 _ rfl
 have y5 := hy 5 _ rfl
 have y6 := hy 6 _ rfl
 have hQb := hQ.below
 have hQn := hQ.next
 have HC := zh (fun x (hx : In Q x) => Jn r.refs r.store _ _ _ _ x (H.out.refs.below (hQb _ hx)) (H.out.store.below (hQb _ hx)))
 have HP := zh (fun x (hx : In Q x) => Jr r.pend _ _ _ _ x (H.out.objs.below (hQb _ hx)) (H.out.upds.below (hQb _ hx)))
 clear hy
 have y01 := y0 _ hQ1
 have y11 := y1 _ hQ1
 by_cases e1 : Aq r.refs r.store = 0
 case neg =>
  have HF := zh (show Al r = Aq r.refs r.store by rw [HR.out, if_pos e1])
  have hq : (Aq r.refs r.store != 0) = true := by simpa using e1
  clear e1 HR
  generalize Aq r.refs r.store = c at *
  go_enter Tryz.func102, Tryz.ntmps102
  go_wp2_with fail
  refine (HC.out _ hQ1).mono ?_
  rintro e w1 ⟨rfl, hb1⟩
  have hQ2 := hQn _ _ hQ1 hb1
  clear hb1 y01 y11 hQ1
  go_wp2_with fail
  go_ret
  exact ⟨Ae HF.out.symm, hQb _ hQ2⟩
 rw [if_neg (by simpa using e1)] at HR
 rw [e1] at HC
 clear e1
 by_cases egenlo : r.gen < 0
 case pos =>
  have HF := zh (show Al r = 3 by rw [HR.out, if_pos (by unfold within; simp; omega)])
  have hb : within r.gen 0 999 = false := by unfold within; simp; omega
  clear HR
  go_enter Tryz.func102, Tryz.ntmps102
  go_wp2_with fail
  refine (HC.out _ hQ1).mono ?_
  rintro e w1 ⟨rfl, hb1⟩
  have hQ2 := hQn _ _ hQ1 hb1
  have y22 := y2 _ hQ2
  have y32 := y3 _ hQ2
  have y42 := y4 _ hQ2
  have y52 := y5 _ hQ2
  have y62 := y6 _ hQ2
  clear hb1 y01 y11 hQ1
  go_wp2_with fail
  refine (Ao _ _ _ _).mono ?_
  rintro e w9 ⟨rfl, rfl⟩
  rw [hb]
  go_wp2_with fail
  go_ret
  exact ⟨Ae HF.out.symm, hQb _ hQ2⟩
 by_cases egenhi : 999 < r.gen
 case pos =>
  have HF := zh (show Al r = 3 by rw [HR.out, if_pos (by unfold within; simp; omega)])
  have hb : within r.gen 0 999 = false := by unfold within; simp; omega
  clear HR
  go_enter Tryz.func102, Tryz.ntmps102
  go_wp2_with fail
  refine (HC.out _ hQ1).mono ?_
  rintro e w1 ⟨rfl, hb1⟩
  have hQ2 := hQn _ _ hQ1 hb1
  have y22 := y2 _ hQ2
  have y32 := y3 _ hQ2
  have y42 := y4 _ hQ2
  have y52 := y5 _ hQ2
  have y62 := y6 _ hQ2
  clear hb1 y01 y11 hQ1
  go_wp2_with fail
  refine (Ao _ _ _ _).mono ?_
  rintro e w9 ⟨rfl, rfl⟩
  rw [hb]
  go_wp2_with fail
  go_ret
  exact ⟨Ae HF.out.symm, hQb _ hQ2⟩
 rw [if_neg (by unfold within; simp; omega)] at HR
 have hg1 : decide (r.gen < 0) = false := decide_eq_false egenlo
 have hg2 : decide (999 < r.gen) = false := decide_eq_false egenhi
 have hbg : within r.gen 0 999 = true := by unfold within; simp; omega
 by_cases ephaselo : r.phase < 0
 case pos =>
  have HF := zh (show Al r = 7 by rw [HR.out, if_pos (by unfold within; simp; omega)])
  have hb : within r.phase 0 2 = false := by unfold within; simp; omega
  clear HR
  go_enter Tryz.func102, Tryz.ntmps102
  go_wp2_with fail
  refine (HC.out _ hQ1).mono ?_
  rintro e w1 ⟨rfl, hb1⟩
  have hQ2 := hQn _ _ hQ1 hb1
  have y22 := y2 _ hQ2
  have y32 := y3 _ hQ2
  have y42 := y4 _ hQ2
  have y52 := y5 _ hQ2
  have y62 := y6 _ hQ2
  clear hb1 y01 y11 hQ1
  go_wp2_with fail
  refine (Ao _ _ _ _).mono ?_
  rintro e w9 ⟨rfl, rfl⟩
  rw [hbg]
  go_wp2_with fail
  refine (Ao _ _ _ _).mono ?_
  rintro e w9 ⟨rfl, rfl⟩
  rw [hb]
  go_wp2_with fail
  go_ret
  exact ⟨Ae HF.out.symm, hQb _ hQ2⟩
 by_cases ephasehi : 2 < r.phase
 case pos =>
  have HF := zh (show Al r = 7 by rw [HR.out, if_pos (by unfold within; simp; omega)])
  have hb : within r.phase 0 2 = false := by unfold within; simp; omega
  clear HR
  go_enter Tryz.func102, Tryz.ntmps102
  go_wp2_with fail
  refine (HC.out _ hQ1).mono ?_
  rintro e w1 ⟨rfl, hb1⟩
  have hQ2 := hQn _ _ hQ1 hb1
  have y22 := y2 _ hQ2
  have y32 := y3 _ hQ2
  have y42 := y4 _ hQ2
  have y52 := y5 _ hQ2
  have y62 := y6 _ hQ2
  clear hb1 y01 y11 hQ1
  go_wp2_with fail
  refine (Ao _ _ _ _).mono ?_
  rintro e w9 ⟨rfl, rfl⟩
  rw [hbg]
  go_wp2_with fail
  refine (Ao _ _ _ _).mono ?_
  rintro e w9 ⟨rfl, rfl⟩
  rw [hb]
  go_wp2_with fail
  go_ret
  exact ⟨Ae HF.out.symm, hQb _ hQ2⟩
 rw [if_neg (by unfold within; simp; omega)] at HR
 have hp1 : decide (r.phase < 0) = false := decide_eq_false ephaselo
 have hp2 : decide (2 < r.phase) = false := decide_eq_false ephasehi
 have hbp : within r.phase 0 2 = true := by unfold within; simp; omega
 by_cases e3 : r.phase = 0
 case neg =>
  have HF := zh (show Al r = As r.pend by rw [HR.out, if_pos e3])
  have hq : (r.phase != 0) = true := by simpa using e3
  have hd : decide (0 < r.phase) = true := decide_eq_true (by omega)
  clear HR e3
  go_enter Tryz.func102, Tryz.ntmps102
  go_wp2_with fail
  refine (HC.out _ hQ1).mono ?_
  rintro e w1 ⟨rfl, hb1⟩
  have hQ2 := hQn _ _ hQ1 hb1
  have y22 := y2 _ hQ2
  have y32 := y3 _ hQ2
  have y42 := y4 _ hQ2
  have y52 := y5 _ hQ2
  have y62 := y6 _ hQ2
  clear hb1 y01 y11 hQ1
  go_wp2_with fail
  refine (Ao _ _ _ _).mono ?_
  rintro e w9 ⟨rfl, rfl⟩
  rw [hbg]
  go_wp2_with fail
  refine (Ao _ _ _ _).mono ?_
  rintro e w9 ⟨rfl, rfl⟩
  rw [hbp]
  go_wp2_with fail
  refine (HP.out _ hQ2).mono ?_
  rintro e w3 ⟨rfl, hb3⟩
  have hQ3 := hQn _ _ hQ2 hb3
  go_wp2_with fail
  go_ret
  exact ⟨Ae HF.out.symm, hQb _ hQ3⟩
 rw [if_neg (by simpa using e3)] at HR
 have hq : (r.phase != 0) = false := by simpa using e3
 have hd : decide (0 < r.phase) = false := decide_eq_false (by omega)
 clear e3 HP
 have HS := zh (fun x (hx : In Q x) => GS r.pend CX _ _ (.slice none 0 0) (.slice none 0 0) S (fun _ => True) x (H.out.objs.below (hQb _ hx)) (H.out.upds.below (hQb _ hx)) (Ah.nil _ _ _ _ (by omega)) (AM.nil _ _ _ _ (by omega)))
 simp only [Kl, EH] at HS
 cases he : BK r.pend
 ·rw [he] at HS HR
  have HF := zh (show Al r = 1 by rw [HR.out]; simp)
  clear HR he
  go_enter Tryz.func102, Tryz.ntmps102
  go_wp2_with fail
  refine (HC.out _ hQ1).mono ?_
  rintro e w1 ⟨rfl, hb1⟩
  have hQ2 := hQn _ _ hQ1 hb1
  have y22 := y2 _ hQ2
  have y32 := y3 _ hQ2
  have y42 := y4 _ hQ2
  have y52 := y5 _ hQ2
  have y62 := y6 _ hQ2
  clear hb1 y01 y11 hQ1
  go_wp2_with fail
  refine (Ao _ _ _ _).mono ?_
  rintro e w9 ⟨rfl, rfl⟩
  rw [hbg]
  go_wp2_with fail
  refine (Ao _ _ _ _).mono ?_
  rintro e w9 ⟨rfl, rfl⟩
  rw [hbp]
  go_wp2_with fail
  refine (HS.out _ hQ2).mono ?_
  rintro e w3 ⟨rfl, hb3⟩
  have hQ3 := hQn _ _ hQ2 hb3
  go_wp2_with fail
  go_ret
  exact ⟨Ae HF.out.symm, hQb _ hQ3⟩
 ·rw [he] at HS HR
  have HF := zh (show Al r = 0 by rw [HR.out]; simp)
  clear HR he
  go_enter Tryz.func102, Tryz.ntmps102
  go_wp2_with fail
  refine (HC.out _ hQ1).mono ?_
  rintro e w1 ⟨rfl, hb1⟩
  have hQ2 := hQn _ _ hQ1 hb1
  have y22 := y2 _ hQ2
  have y32 := y3 _ hQ2
  have y42 := y4 _ hQ2
  have y52 := y5 _ hQ2
  have y62 := y6 _ hQ2
  clear hb1 y01 y11 hQ1
  go_wp2_with fail
  refine (Ao _ _ _ _).mono ?_
  rintro e w9 ⟨rfl, rfl⟩
  rw [hbg]
  go_wp2_with fail
  refine (Ao _ _ _ _).mono ?_
  rintro e w9 ⟨rfl, rfl⟩
  rw [hbp]
  go_wp2_with fail
  refine (HS.out _ hQ2).mono ?_
  rintro e w3 ⟨rfl, hb3⟩
  have hQ3 := hQn _ _ hQ2 hb3
  go_wp2_with fail
  go_ret
  exact ⟨Ae HF.out.symm, hQb _ hQ3⟩
theorem LW (p q : An) (sv rv ov uv sv2 rv2 ov2 uv2 : Value) (S S' : Nat → Prop) (w : World) (h : AH S w p sv rv ov uv) (h2 : AH S' w q sv2 rv2 ov2 uv2) :
  Calls Tryz.prog 32 #[Bf p sv rv ov uv, Bf q sv2 rv2 ov2 uv2] w fun e w' => e = .returned (.bool (EV p q)) ∧ Below w.heap.size w w' := by
 have HD := zh (show EV p q = (BQ p.store q.store && Bu p.refs q.refs && (p.gen == q.gen) && (p.phase == q.phase) && Fo p.pend q.pend) from rfl)
 have H := zh h
 have G := zh h2
 obtain ⟨sa, sc, rfl⟩ := h.store.vshape
 obtain ⟨⟨ra, rc⟩, rfl⟩ := h.refs.shape
 obtain ⟨oa, oc, rfl⟩ := h.objs.vshape
 obtain ⟨⟨ua, uc⟩, rfl⟩ := h.upds.shape
 obtain ⟨Lu, NX, rfl⟩ := h2.store.vshape
 obtain ⟨⟨ra2, rc2⟩, rfl⟩ := h2.refs.shape
 obtain ⟨oa2, oc2, rfl⟩ := h2.objs.vshape
 obtain ⟨⟨ua2, uc2⟩, rfl⟩ := h2.upds.shape
 clear h h2
 simp only [Bf]
 obtain ⟨Q, hQ, hQ1, hy, hz⟩ := IZ w #[.slice sa p.store.length sc, .slice ra p.refs.length rc, .int .i64 p.gen, .int .i64 p.phase, .slice oa p.pend.objects.length oc, .slice ua p.pend.updates.length uc, .bool p.pend.force]
  #[.slice Lu q.store.length NX, .slice ra2 q.refs.length rc2, .int .i64 q.gen, .int .i64 q.phase, .slice oa2 q.pend.objects.length oc2, .slice ua2 q.pend.updates.length uc2, .bool q.pend.force] 28 28
 have hQb := hQ.below
 have hQn := hQ.next
 have H1 := zh (fun x (hx : In Q x) => Jz p.store q.store _ _ _ _ x (H.out.store.below (hQb _ hx)) (G.out.store.below (hQb _ hx)))
 have H2 := zh (fun x (hx : In Q x) => Ka p.refs q.refs _ _ _ _ x (H.out.refs.below (hQb _ hx)) (G.out.refs.below (hQb _ hx)))
 have H3 := zh (fun x (hx : In Q x) => GS p.pend q.pend _ _ _ _ _ _ x (H.out.objs.below (hQb _ hx)) (H.out.upds.below (hQb _ hx)) (G.out.objs.below (hQb _ hx)) (G.out.upds.below (hQb _ hx)))
 simp only [EH] at H3
 have y0 := hy 0 _ rfl _ hQ1
 have z0 := hz 0 _ rfl _ hQ1
 have y1 := hy 1 _ rfl
 have z1 := hz 1 _ rfl
 have y2 := hy 2 _ rfl
 have z2 := hz 2 _ rfl
 have y3 := hy 3 _ rfl
 have z3 := hz 3 _ rfl
 have y4 := hy 4 _ rfl
 have z4 := hz 4 _ rfl
 have y5 := hy 5 _ rfl
 have z5 := hz 5 _ rfl
 have y6 := hy 6 _ rfl
 have z6 := hz 6 _ rfl
 clear hy hz
 cases s1 : BQ p.store q.store
 ·rw [s1] at H1 HD
  go_enter Tryz.func32, Tryz.ntmps32
  go_wp2_with fail
  refine (H1.out _ hQ1).mono ?_
  rintro e w1 ⟨rfl, hbw1⟩
  have hQ2 := hQn _ _ hQ1 hbw1
  go_wp2_with fail
  go_ret
  exact ⟨by rw [HD.out]; rfl, hQb _ hQ2⟩
 ·rw [s1] at H1 HD
  cases s2 : Bu p.refs q.refs
  ·rw [s2] at H2 HD
   go_enter Tryz.func32, Tryz.ntmps32
   go_wp2_with fail
   refine (H1.out _ hQ1).mono ?_
   rintro e w1 ⟨rfl, hbw1⟩
   have hQ2 := hQn _ _ hQ1 hbw1
   have y1zhQ2 := y1 _ hQ2
   have z1zhQ2 := z1 _ hQ2
   go_wp2_with fail
   refine (H2.out _ hQ2).mono ?_
   rintro e w2 ⟨rfl, hbw2⟩
   have hQ3 := hQn _ _ hQ2 hbw2
   go_wp2_with fail
   go_ret
   exact ⟨by rw [HD.out]; rfl, hQb _ hQ3⟩
  ·rw [s2] at H2 HD
   cases s3 : (p.gen == q.gen)
   ·rw [s3] at HD
    go_enter Tryz.func32, Tryz.ntmps32
    go_wp2_with fail
    refine (H1.out _ hQ1).mono ?_
    rintro e w1 ⟨rfl, hbw1⟩
    have hQ2 := hQn _ _ hQ1 hbw1
    have y1zhQ2 := y1 _ hQ2
    have z1zhQ2 := z1 _ hQ2
    go_wp2_with fail
    refine (H2.out _ hQ2).mono ?_
    rintro e w2 ⟨rfl, hbw2⟩
    have hQ3 := hQn _ _ hQ2 hbw2
    have y2zhQ3 := y2 _ hQ3
    have z2zhQ3 := z2 _ hQ3
    go_wp2_with fail
    go_ret
    exact ⟨by rw [HD.out]; rfl, hQb _ hQ3⟩
   ·rw [s3] at HD
    cases s4 : (p.phase == q.phase)
    ·rw [s4] at HD
     go_enter Tryz.func32, Tryz.ntmps32
     go_wp2_with fail
     refine (H1.out _ hQ1).mono ?_
     rintro e w1 ⟨rfl, hbw1⟩
     have hQ2 := hQn _ _ hQ1 hbw1
     have y1zhQ2 := y1 _ hQ2
     have z1zhQ2 := z1 _ hQ2
     go_wp2_with fail
     refine (H2.out _ hQ2).mono ?_
     rintro e w2 ⟨rfl, hbw2⟩
     have hQ3 := hQn _ _ hQ2 hbw2
     have y2zhQ3 := y2 _ hQ3
     have z2zhQ3 := z2 _ hQ3
     have y3zhQ3 := y3 _ hQ3
     have z3zhQ3 := z3 _ hQ3
     go_wp2_with fail
     go_ret
     exact ⟨by rw [HD.out]; rfl, hQb _ hQ3⟩
    ·rw [s4] at HD
     go_enter Tryz.func32, Tryz.ntmps32
     go_wp2_with fail
     refine (H1.out _ hQ1).mono ?_
     rintro e w1 ⟨rfl, hbw1⟩
     have hQ2 := hQn _ _ hQ1 hbw1
     have y1zhQ2 := y1 _ hQ2
     have z1zhQ2 := z1 _ hQ2
     go_wp2_with fail
     refine (H2.out _ hQ2).mono ?_
     rintro e w2 ⟨rfl, hbw2⟩
     have hQ3 := hQn _ _ hQ2 hbw2
     have y2zhQ3 := y2 _ hQ3
     have z2zhQ3 := z2 _ hQ3
     have y3zhQ3 := y3 _ hQ3
     have z3zhQ3 := z3 _ hQ3
     have y4zhQ3 := y4 _ hQ3
     have z4zhQ3 := z4 _ hQ3
     have y5zhQ3 := y5 _ hQ3
     have z5zhQ3 := z5 _ hQ3
     have y6zhQ3 := y6 _ hQ3
     have z6zhQ3 := z6 _ hQ3
     go_wp2_with fail
     refine (H3.out _ hQ3).mono ?_
     rintro e w3 ⟨rfl, hbw3⟩
     have hQ4 := hQn _ _ hQ3 hbw3
     go_wp2_with fail
     go_ret
     exact ⟨by rw [HD.out]; rfl, hQb _ hQ4⟩
theorem AE.bytes {S : Nat → Prop} {w : World} {v : Value} {l : List Rf} (h : AE S w v l) : l.length * 24 ≤ 140737488351232 :=
 let ⟨⟨_, _, _, _, _, h3, _⟩, _⟩ := h; h3
def Tl (w w' : World) (e : Ending) (r : An) (c : Int) : Prop := ∃ sv rv ov uv, e = .returned (.tuple #[Bf r sv rv ov uv, .int .i64 c]) ∧ AH (fun _ => True) w' r sv rv ov uv ∧ Below w.heap.size w w'
def FL (w w' : World) (e : Ending) (r : An) (c : Int) : Prop := ∃ sv rv ov uv, e = .returned (.tuple #[Bf r sv rv ov uv, .int .i64 c]) ∧ AH (fun b => w.heap.size ≤ b) w' r sv rv ov uv ∧ Below w.heap.size w w'
theorem FL.e {w w' : World} {e : Ending} {r : An} {c : Int} (h : FL w w' e r c) : Tl w w' e r c := let ⟨_, _, _, _, h1, h2, h3⟩ := h; ⟨_, _, _, _, h1, h2.weaken fun _ _ => trivial, h3⟩
def PM (A : Nat → Prop) (w w' : World) (e : Ending) (r : An) (c : Int) : Prop := ∃ sv rv ov uv, e = .returned (.tuple #[Bf r sv rv ov uv, .int .i64 c]) ∧ AH (fun b => A b ∨ w.heap.size ≤ b) w' r sv rv ov uv ∧ Below w.heap.size w w'
theorem PM.e {A : Nat → Prop} {w w' : World} {e : Ending} {r : An} {c : Int} (h : PM A w w' e r c) : Tl w w' e r c := let ⟨_, _, _, _, h1, h2, h3⟩ := h; ⟨_, _, _, _, h1, h2.weaken fun _ _ => trivial, h3⟩
theorem El (S : Nat → Prop) (w : World) : AH S w Ds (.slice none 0 0) (.slice none 0 0) (.slice none 0 0) (.slice none 0 0) :=
 ⟨Ah.nil _ _ _ _ (by omega), AE.nil _ _ _ _ (by omega), Ah.nil _ _ _ _ (by omega), AM.nil _ _ _ _ (by omega), by unfold DL; decide, by unfold DL; decide⟩
def Tw : Array Value := #[.slice none 0 0, .slice none 0 0, .int .i64 0, .int .i64 0, .slice none 0 0, .slice none 0 0, .bool false]
theorem FO : ∀ (os : List Go.Obj) (w : World), Below w.heap.size w (os.foldl World.alloc w)
 | [], w => Below.refl _ _
 | o :: os, w => Below.trans ((Below.refl w.heap.size w).alloc (Nat.le_refl _) o) ((FO os (w.alloc o)).mono (by simp))
theorem NW : ∀ (os : List Go.Obj) (w : World), (os.foldl World.alloc w).heap.size = w.heap.size + os.length
 | [], w => rfl
 | o :: os, w => by rw [List.foldl_cons, NW os]; simp; omega
theorem Gs : ∀ (os : List Go.Obj) (w : World) (j : Nat) (o : Go.Obj), os[j]? = some o → (os.foldl World.alloc w).heap[w.heap.size + j]? = some o
 | [], w, j, o, h => by simp at h
 | o' :: os, w, 0, o, h => by
  obtain rfl : o' = o := by simpa using h
  rw [List.foldl_cons, (FO os (w.alloc o')).block _ (by simp)]
  exact heap_alloc_new w o'
 | o' :: os, w, j + 1, o, h => by
  have := Gs os (w.alloc o') j o (by simpa using h)
  rw [List.foldl_cons, show w.heap.size + (j + 1) = (w.alloc o').heap.size + j by simp; omega]
  exact this
theorem AI (w : World) (os : List Go.Obj) : ∃ R : World → Prop, Vm w R ∧ In R (os.foldl World.alloc w) ∧ ∀ x, In R x → ∀ j o, os[j]? = some o → x.heap[w.heap.size + j]? = some o := by
 refine ⟨_, IV w (os.foldl World.alloc w) (w.heap.size + os.length) (by omega) (by rw [NW]; exact Nat.le_refl _) (FO os w), Below.refl _ _, fun x hx j o hj => ?_⟩
 have hlt := (List.getElem?_eq_some_iff.1 hj).1
 rw [Below.block hx _ (by omega)]
 exact Gs os w j o hj
theorem AH.lt {S : Nat → Prop} {w : World} {r : An} {sv rv ov uv : Value} (h : AH S w r sv rv ov uv) : AH (fun b => S b ∧ b < w.heap.size) w r sv rv ov uv :=
 ⟨h.store.lt, h.refs.lt, h.objs.lt, h.upds.lt, h.gen, h.phase⟩
theorem AH.upd {S T : Nat → Prop} {w w' : World} {r : An} {sv rv ov uv : Value} (h : AH S w r sv rv ov uv) (hu : Av T w w') (hT : ∀ b, S b → ¬ T b) : AH S w' r sv rv ov uv :=
 ⟨h.store.upd' hu hT, h.refs.upd hu hT, h.objs.upd' hu hT, h.upds.upd hu hT, h.gen, h.phase⟩
theorem Eo {r : An} (h : Al r = 0) : Ag r.store = 0 := by
 unfold Al at h
 split at h
 ·rename_i h1; exact absurd h h1
 ·rename_i h1
  have h2 : Aq r.refs r.store = 0 := by simpa using h1
  unfold Aq at h2
  split at h2
  ·rename_i h3; exact absurd h2 h3
  ·rename_i h3; simpa using h3
def DD (r : An) : An := ⟨r.store, r.refs, r.gen, 0, CX⟩
def Im (r : An) (ph : Int) : Int := if Al r ≠ 0 then Al r else if r.phase ≠ ph then 4 else 0
def Cg (r : An) (p : BJ) : An := ⟨r.store, r.refs, r.gen, 1, p⟩
def Js (r : An) (p : BJ) : Int := if Im r 0 ≠ 0 then Im r 0 else As p
def Ir (r : An) (p : BJ) : An := if Js r p = 0 then Cg r p else Ds
def Cb (r : An) : An := ⟨r.store, r.refs, r.gen, 2, r.pend⟩
def Ox (r : An) : An := if Im r 1 = 0 then Cb r else Ds
def Ma (r : An) : ByteArray := if Im r 1 = 0 then Cu r r.pend else ByteArray.empty
def OQ (r : An) : Int := if Bn r r.pend ≠ 0 then Bn r r.pend else if r.gen = 999 then 2 else 0
def DQ (r : An) (p : BJ) : An := ⟨Ff r p, EG r p, r.gen + 1, 0, CX⟩
def Sm (r : An) (commit : Bool) : Int := if commit = true then OQ r else 0
def Vb (r : An) (commit : Bool) : An := if commit = true then DQ r r.pend else DD r
def JX (r : An) (commit : Bool) : Int := if Im r 2 ≠ 0 then Im r 2 else Sm r commit
def LV (r : An) (commit : Bool) : An := if JX r commit = 0 then Vb r commit else Ds
def Ns (r : An) : An := if Al r = 0 then DD r else Ds
theorem Kt {r : An} {ph : Int} (h : Im r ph = 0) : Al r = 0 ∧ r.phase = ph := by
 unfold Im at h
 by_cases h1 : Al r = 0
 ·rw [if_neg (by simpa using h1)] at h
  by_cases h2 : r.phase = ph
  ·exact ⟨h1, h2⟩
  ·rw [if_pos h2] at h; cases h
 ·rw [if_pos h1] at h; exact absurd h h1
theorem MU {r : An} {ph : Int} (h1 : Al r = 0) (h2 : r.phase = ph) : Im r ph = 0 := by
 unfold Im; rw [if_neg (by simpa using h1), if_neg (by simpa using h2)]
theorem Xe {r : An} {ph : Int} (h1 : Al r = 0) (h2 : r.phase ≠ ph) : Im r ph = 4 := by
 unfold Im; rw [if_neg (by simpa using h1), if_pos h2]
theorem OH {r : An} {ph : Int} (h1 : Al r ≠ 0) : Im r ph = Al r := by unfold Im; rw [if_pos h1]
structure Ct (r : An) : Prop where
 refs : Aq r.refs r.store = 0
 gen : 0 ≤ r.gen ∧ r.gen ≤ 999
 phase : 0 ≤ r.phase ∧ r.phase ≤ 2
 held : r.phase ≠ 0 → As r.pend = 0
 none : r.phase = 0 → r.pend = CX
theorem Bg {r : An} : Al r = 0 ↔ Ct r := by
 unfold Al
 constructor
 ·intro h
  split at h
  ·rename_i h1; exact absurd h h1
  ·rename_i h1
   split at h
   ·cases h
   ·rename_i h2
    split at h
    ·cases h
    ·rename_i h3
     refine ⟨by simpa using h1, Bw (by simpa using h2), Bw (by simpa using h3), fun hp => ?_, fun hp => ?_⟩
     ·rw [if_pos hp] at h; exact h
     ·rw [if_neg (by simpa using hp)] at h
      split at h
      ·rename_i h4
       rw [← Kl] at h4
       exact (Fa _ _).1 h4
      ·cases h
 ·intro h
  rw [if_neg (by simpa using h.refs), if_neg (by simp [within, h.gen.1, h.gen.2]), if_neg (by simp [within, h.phase.1, h.phase.2])]
  by_cases hp : r.phase = 0
  ·rw [if_neg (by simpa using hp), h.none hp, if_pos (by simp [BK, CX])]
  ·rw [if_pos hp]; exact h.held hp
theorem SD {r : An} (h : Ct r) : Ct (DD r) := ⟨h.refs, h.gen, ⟨by simp [DD], by simp [DD]⟩, fun hp => absurd rfl hp, fun _ => rfl⟩
theorem NI {r : An} {p : BJ} (h : Ct r) (hp : As p = 0) : Ct (Cg r p) := ⟨h.refs, h.gen, ⟨by simp [Cg], by simp [Cg]⟩, fun _ => hp, fun h0 => by simp [Cg] at h0⟩
theorem Lv {r : An} (h : Ct r) (hp : As r.pend = 0) : Ct (Cb r) := ⟨h.refs, h.gen, ⟨by simp [Cb], by simp [Cb]⟩, fun _ => hp, fun h0 => by simp [Cb] at h0⟩
theorem Ng {r : An} {p : BJ} (h : Ct r) (ht : Bn r p = 0) (hg : r.gen ≠ 999) : Ct (DQ r p) := by
 have hT := RY ht
 refine ⟨?_, by have := h.gen; simp only [DQ]; omega, ⟨by simp [DQ], by simp [DQ]⟩, fun hp => absurd rfl hp, fun _ => rfl⟩
 show Aq (EG r p) (Ff r p) = 0
 unfold Aq
 rw [if_neg (by simpa using hT.store)]; exact hT.right
theorem Us {r : An} (h : Ct r) (hp : r.phase = 0) : DD r = r := by
 have := h.none hp
 unfold DD
 rw [← this, ← hp]
theorem OE {r : An} {p : BJ} (h : Js r p = 0) : Ct r ∧ r.phase = 0 ∧ As p = 0 ∧ Ir r p = Cg r p := by
 have hR : Ir r p = Cg r p := by unfold Ir; rw [if_pos h]
 unfold Js at h
 by_cases h1 : Im r 0 = 0
 ·rw [if_neg (by simpa using h1)] at h
  exact ⟨Bg.1 (Kt h1).1, (Kt h1).2, h, hR⟩
 ·rw [if_pos h1] at h; exact absurd h h1
structure Yb (r : An) (p : BJ) : Prop where
 a : Ir r p = Cg r p
 vot : Im (Cg r p) 1 = 0 ∧ Ox (Cg r p) = Cb (Cg r p) ∧ Ma (Cg r p) = Cu r p
 same : Cu r p ≠ ByteArray.empty
 ca : Al (Cg r p) = 0 ∧ Ns (Cg r p) = r
 cb : Al (Cb (Cg r p)) = 0 ∧ Ns (Cb (Cg r p)) = r
 fin : JX (Cb (Cg r p)) false = 0 ∧ LV (Cb (Cg r p)) false = r
theorem TY (r : An) (p : BJ) : Cu r p ≠ ByteArray.empty := by
 intro h
 have h1 : (Cu r p).size = 0 := by rw [h]; rfl
 by_cases ht : Bn r p = 0
 ·have := (Wr ht).1; omega
 ·have := Tn ht; omega
theorem apart {r : An} {p : BJ} (h : Js r p = 0) : Yb r p := by
 obtain ⟨hr, h0, hp, hR⟩ := OE h
 have hh := NI hr hp
 have hv : Ct (Cb (Cg r p)) := Lv hh hp
 have e1 : Im (Cg r p) 1 = 0 := MU (Bg.2 hh) rfl
 have e2 : Im (Cb (Cg r p)) 2 = 0 := MU (Bg.2 hv) rfl
 have ei : DD r = r := Us hr h0
 refine ⟨hR, ⟨e1, by unfold Ox; rw [if_pos e1], by unfold Ma; rw [if_pos e1]; rfl⟩, TY r p, ⟨Bg.2 hh, by unfold Ns; rw [if_pos (Bg.2 hh)]; exact ei⟩, ⟨Bg.2 hv, by unfold Ns; rw [if_pos (Bg.2 hv)]; exact ei⟩, ?_⟩
 have ef : JX (Cb (Cg r p)) false = 0 := by unfold JX; rw [if_neg (by simpa using e2)]; rfl
 exact ⟨ef, by unfold LV; rw [if_pos ef]; exact ei⟩
theorem YC {r : An} {p : BJ} (h : Js r p = 0) : JX (Cb (Cg r p)) true = (if Bn r p ≠ 0 then Bn r p else if r.gen = 999 then 2 else 0) ∧
  (Bn r p = 0 → r.gen ≠ 999 → LV (Cb (Cg r p)) true = DQ r p ∧ Al (DQ r p) = 0) := by
 obtain ⟨hr, h0, hp, hR⟩ := OE h
 have hv : Ct (Cb (Cg r p)) := Lv (NI hr hp) hp
 have e2 : Im (Cb (Cg r p)) 2 = 0 := MU (Bg.2 hv) rfl
 have ef : JX (Cb (Cg r p)) true = (if Bn r p ≠ 0 then Bn r p else if r.gen = 999 then 2 else 0) := by
  unfold JX; rw [if_neg (by simpa using e2)]; rfl
 refine ⟨ef, fun ht hg => ⟨?_, Bg.2 (Ng hr ht hg)⟩⟩
 unfold LV
 rw [if_pos (by rw [ef, if_neg (by simpa using ht), if_neg hg])]; rfl
end Go.Proofs.YtjdgpgfiomnjkaaGreatDoor
