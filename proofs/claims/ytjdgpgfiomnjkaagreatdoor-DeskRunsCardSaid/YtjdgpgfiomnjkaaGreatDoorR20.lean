/- RepV: what a push and a replica read as. -/
import Derived.Test.YtjdgpgfiomnjkaaGreatDoorR19
set_option linter.all false
set_option maxHeartbeats 4000000
set_option maxRecDepth 100000
namespace Go.Proofs.YtjdgpgfiomnjkaaGreatDoor
open Go.RowKit
structure AI (S : Nat → Prop) (w : World) (r : An) (sv rv ov uv : Value) : Prop where
 store : Ag S w sv r.store
 refs : AF S w rv r.refs
 objs : Ag S w ov r.pend.objects
 upds : AM S w uv r.pend.updates
 gen : DO r.gen
 phase : DO r.phase
theorem AI.below {S : Nat → Prop} {w w' : World} {r : An} {sv rv ov uv : Value} (h : AI S w r sv rv ov uv) (hb : Below w.heap.size w w') : AI S w' r sv rv ov uv :=
 ⟨h.store.below hb, h.refs.below hb, h.objs.below hb, h.upds.below hb, h.gen, h.phase⟩
theorem AI.weaken {S S' : Nat → Prop} {w : World} {r : An} {sv rv ov uv : Value} (h : AI S w r sv rv ov uv) (hs : ∀ b, S b → S' b) : AI S' w r sv rv ov uv :=
 ⟨h.store.weaken hs, h.refs.weaken hs, h.objs.weaken hs, h.upds.weaken hs, h.gen, h.phase⟩
def Bl (r : An) (sv rv ov uv : Value) : Value := .agg #[sv, rv, .int .i64 r.gen, .int .i64 r.phase, ov, uv, .bool r.pend.force]
def Fe (p : BJ) (ov uv : Value) : Value := .agg #[ov, uv, .bool p.force]
def XH (w w' : World) (e : Ending) (r : An) : Prop := ∃ sv rv ov uv, e = .returned (Bl r sv rv ov uv) ∧ AI (fun b => w.heap.size ≤ b) w' r sv rv ov uv ∧ Below w.heap.size w w'
def UM (w w' : World) (e : Ending) (p : BJ) : Prop := ∃ ov uv, e = .returned (Fe p ov uv) ∧ Ag (fun b => w.heap.size ≤ b) w' ov p.objects ∧ AM (fun b => w.heap.size ≤ b) w' uv p.updates ∧ Below w.heap.size w w'
def BL (b : Nat) (v0 v1 v2 v3 v4 v5 v6 : Value) (w : World) : World := ((((((w.setCell ⟨b, 0, none⟩ v0).setCell ⟨b, 1, none⟩ v1).setCell ⟨b, 2, none⟩ v2).setCell ⟨b, 3, none⟩ v3).setCell ⟨b, 4, none⟩ v4).setCell ⟨b, 5, none⟩ v5).setCell ⟨b, 6, none⟩ v6
theorem BH {b : Nat} {v0 v1 v2 v3 v4 v5 v6 u0 u1 u2 u3 u4 u5 u6 : Value} {t : TypeId} {w : World} (h0 : w.heap[b]? = some (.cells #[u0, u1, u2, u3, u4, u5, u6] t (0, 0))) :
  (BL b v0 v1 v2 v3 v4 v5 v6 w).heap[b]? = some (.cells #[v0, v1, v2, v3, v4, v5, v6] t (0, 0)) := by
 have s0 : (w.setCell ⟨b, 0, none⟩ v0).heap[b]? = some (.cells #[v0, u1, u2, u3, u4, u5, u6] t (0, 0)) := by have := Ad (j := 0) h0 v0; simpa using this
 have s1 : ((w.setCell ⟨b, 0, none⟩ v0).setCell ⟨b, 1, none⟩ v1).heap[b]? = some (.cells #[v0, v1, u2, u3, u4, u5, u6] t (0, 0)) := by have := Ad (j := 1) s0 v1; simpa using this
 have s2 : (((w.setCell ⟨b, 0, none⟩ v0).setCell ⟨b, 1, none⟩ v1).setCell ⟨b, 2, none⟩ v2).heap[b]? = some (.cells #[v0, v1, v2, u3, u4, u5, u6] t (0, 0)) := by have := Ad (j := 2) s1 v2; simpa using this
 have s3 : ((((w.setCell ⟨b, 0, none⟩ v0).setCell ⟨b, 1, none⟩ v1).setCell ⟨b, 2, none⟩ v2).setCell ⟨b, 3, none⟩ v3).heap[b]? = some (.cells #[v0, v1, v2, v3, u4, u5, u6] t (0, 0)) := by have := Ad (j := 3) s2 v3; simpa using this
 have s4 : (((((w.setCell ⟨b, 0, none⟩ v0).setCell ⟨b, 1, none⟩ v1).setCell ⟨b, 2, none⟩ v2).setCell ⟨b, 3, none⟩ v3).setCell ⟨b, 4, none⟩ v4).heap[b]? = some (.cells #[v0, v1, v2, v3, v4, u5, u6] t (0, 0)) := by have := Ad (j := 4) s3 v4; simpa using this
 have s5 : ((((((w.setCell ⟨b, 0, none⟩ v0).setCell ⟨b, 1, none⟩ v1).setCell ⟨b, 2, none⟩ v2).setCell ⟨b, 3, none⟩ v3).setCell ⟨b, 4, none⟩ v4).setCell ⟨b, 5, none⟩ v5).heap[b]? = some (.cells #[v0, v1, v2, v3, v4, v5, u6] t (0, 0)) := by have := Ad (j := 5) s4 v5; simpa using this
 have s6 : (((((((w.setCell ⟨b, 0, none⟩ v0).setCell ⟨b, 1, none⟩ v1).setCell ⟨b, 2, none⟩ v2).setCell ⟨b, 3, none⟩ v3).setCell ⟨b, 4, none⟩ v4).setCell ⟨b, 5, none⟩ v5).setCell ⟨b, 6, none⟩ v6).heap[b]? = some (.cells #[v0, v1, v2, v3, v4, v5, v6] t (0, 0)) := by have := Ad (j := 6) s5 v6; simpa using this
 exact s6
theorem Bj (b : Nat) (v0 v1 v2 v3 v4 v5 v6 : Value) (w : World) : Aq (fun x => x = b) w (BL b v0 v1 v2 v3 v4 v5 v6 w) :=
 Aq.setCell (T := fun x => x = b) (Aq.setCell (T := fun x => x = b) (Aq.setCell (T := fun x => x = b) (Aq.setCell (T := fun x => x = b) (Aq.setCell (T := fun x => x = b) (Aq.setCell (T := fun x => x = b) (Aq.setCell (T := fun x => x = b) (Aq.refl (fun x => x = b) w) (fun _ => rfl) v0) (fun _ => rfl) v1) (fun _ => rfl) v2) (fun _ => rfl) v3) (fun _ => rfl) v4) (fun _ => rfl) v5) (fun _ => rfl) v6
theorem Ag.upd' {T S : Nat → Prop} {w w' : World} {v : Value} {l : List Obj} (h : Ag S w v l) (hu : Aq T w w') (hT : ∀ b, S b → ¬ T b) : Ag S w' v l := by
 have := (h.lt).same (w' := w') fun b hb => hu.block b hb.2 (hT b hb.1)
 exact this.weaken fun b hb => hb.1
theorem AF.lt {S : Nat → Prop} {w : World} {v : Value} {l : List Rf} (h : AF S w v l) : AF (fun b => S b ∧ b < w.heap.size) w v l := by
 obtain ⟨⟨a, cap, hv, h1, h2, h3, h4⟩, h5⟩ := h
 refine ⟨⟨a, cap, hv, h1, h2, h3, fun hn => ?_⟩, h5⟩
 obtain ⟨b, off, ha, hS, hc⟩ := h4 hn
 exact ⟨b, off, ha, ⟨hS, World.block_lt_of_cell? w _ (hc 0 hn 0 _ rfl)⟩, hc⟩
theorem AF.upd {T S : Nat → Prop} {w w' : World} {v : Value} {l : List Rf} (h : AF S w v l) (hu : Aq T w w') (hT : ∀ b, S b → ¬ T b) : AF S w' v l := by
 have := (h.lt).same (w' := w') fun b hb => hu.block b hb.2 (hT b hb.1)
 exact this.weaken fun b hb => hb.1
theorem AM.lt {S : Nat → Prop} {w : World} {v : Value} {l : List Mv} (h : AM S w v l) : AM (fun b => S b ∧ b < w.heap.size) w v l := by
 obtain ⟨⟨a, cap, hv, h1, h2, h3, h4⟩, h5⟩ := h
 refine ⟨⟨a, cap, hv, h1, h2, h3, fun hn => ?_⟩, h5⟩
 obtain ⟨b, off, ha, hS, hc⟩ := h4 hn
 exact ⟨b, off, ha, ⟨hS, World.block_lt_of_cell? w _ (hc 0 hn 0 _ rfl)⟩, hc⟩
theorem AM.upd {T S : Nat → Prop} {w w' : World} {v : Value} {l : List Mv} (h : AM S w v l) (hu : Aq T w w') (hT : ∀ b, S b → ¬ T b) : AM S w' v l := by
 have := (h.lt).same (w' := w') fun b hb => hu.block b hb.2 (hT b hb.1)
 exact this.weaken fun b hb => hb.1
def UC (b : Nat) (v0 v1 v2 : Value) (w : World) : World := ((w.setCell ⟨b, 0, none⟩ v0).setCell ⟨b, 1, none⟩ v1).setCell ⟨b, 2, none⟩ v2
theorem SM {b : Nat} {v0 v1 v2 u0 u1 u2 : Value} {t : TypeId} {w : World} (h0 : w.heap[b]? = some (.cells #[u0, u1, u2] t (0, 0))) :
  (UC b v0 v1 v2 w).heap[b]? = some (.cells #[v0, v1, v2] t (0, 0)) := by
 have s0 : (w.setCell ⟨b, 0, none⟩ v0).heap[b]? = some (.cells #[v0, u1, u2] t (0, 0)) := by have := Ad (j := 0) h0 v0; simpa using this
 have s1 : ((w.setCell ⟨b, 0, none⟩ v0).setCell ⟨b, 1, none⟩ v1).heap[b]? = some (.cells #[v0, v1, u2] t (0, 0)) := by have := Ad (j := 1) s0 v1; simpa using this
 have s2 : (((w.setCell ⟨b, 0, none⟩ v0).setCell ⟨b, 1, none⟩ v1).setCell ⟨b, 2, none⟩ v2).heap[b]? = some (.cells #[v0, v1, v2] t (0, 0)) := by have := Ad (j := 2) s1 v2; simpa using this
 exact s2
theorem Qx (b : Nat) (v0 v1 v2 : Value) (w : World) : Aq (fun x => x = b) w (UC b v0 v1 v2 w) :=
 Aq.setCell (T := fun x => x = b) (Aq.setCell (T := fun x => x = b) (Aq.setCell (T := fun x => x = b) (Aq.refl (fun x => x = b) w) (fun _ => rfl) v0) (fun _ => rfl) v1) (fun _ => rfl) v2
theorem OM (w : World) (l : List Mv) (t : TypeId) (N : Nat) (hN : N = w.heap.size) (hl : l.length * 32 ≤ 140737488351232) (h : ∀ u ∈ l, DO u.old ∧ DO u.new ∧ u.name.size ≤ 140737488351232) :
  AM (fun b => b = N) (w.alloc (.cells (AN (fun i => Bo (mv l i)) l.length).toArray t)) (.slice (some ⟨N, 0, none⟩) l.length l.length) l :=
 ⟨Wc w _ 3 32 _ t N hN (fun _ _ => rfl) hl (by omega), h⟩
theorem Ag.shape3 {S : Nat → Prop} {w : World} {v : Value} {l : List Obj} (h : Ag S w v l) : ∃ a n c, v = .slice a n c := let ⟨a, c, e⟩ := h.vshape; ⟨a, _, c, e⟩
theorem AM.shape3 {S : Nat → Prop} {w : World} {v : Value} {l : List Mv} (h : AM S w v l) : ∃ a n c, v = .slice a n c := let ⟨p, e⟩ := h.shape; ⟨p.1, _, p.2, e⟩
def y7 : ByteArray := ⟨#[121, 101, 115, 32, 55, 32, 109, 97, 105, 110, 32, 51, 32, 54, 59]⟩
def n5 : ByteArray := ⟨#[110, 111, 32, 53]⟩
theorem UQ (p : World → Prop) {x : World} (h : p x) : ∃ C : World → Prop, In C x ∧ (∀ z, In C z → p z) ∧ (∀ z, p z → In C z) := ⟨p, h, fun _ h => h, fun _ h => h⟩
theorem Tryz.infoStr : (Tryz.prog.info? 9).map (fun i => (i.zero, i.size, i.bytes)) = some (some (.string ⟨#[]⟩), 1, 16) := by kernel_rfl
theorem Vr {x : World} {B N : Nat} {v : Value} {l : List ByteArray} (h : x.ownsRow B 9 1 v N (l.map Value.string)) (hN : N = l.length) (hi : ∀ s ∈ l, s.size ≤ 140737488351232) (hb : N * 16 ≤ 140737488351232) : Dc (fun b => B ≤ b) x v l := by
 subst hN
 refine ⟨GJ h (fun g hg => (h.lt g hg).1) (by omega) (fun i hn j u hu => ?_), hi⟩
 match j, hu with
 | 0, hu =>
  simp at hu; subst hu
  simp [MD hn, hn]
theorem Dc.bytes {S : Nat → Prop} {w : World} {v : Value} {l : List ByteArray} (h : Dc S w v l) : l.length * 16 ≤ 140737488351232 := by obtain ⟨⟨_, _, _, _, _, h, _⟩, _⟩ := h; exact h
theorem Ua {n : Int} (h : CK n) : (Bb n).size = 1 := by
 obtain ⟨h0, h1⟩ := h
 have : n = 0 ∨ n = 1 ∨ n = 2 ∨ n = 3 ∨ n = 4 ∨ n = 5 ∨ n = 6 ∨ n = 7 ∨ n = 8 ∨ n = 9 := by omega
 rcases this with rfl | rfl | rfl | rfl | rfl | rfl | rfl | rfl | rfl | rfl <;> decide +kernel
theorem SX {r : An} {p : BJ} (h : Bn r p ≠ 0) : (Cu r p).size = 4 := by
 unfold Cu; rw [if_pos h]
 rw [ByteArray.size_append, Ua (GM r p)]; rfl
theorem UN {r : An} {p : BJ} (h : Bn r p = 0) : 4 < (Cu r p).size ∧ ((Cu r p).extract 0 4).toList = [121, 101, 115, 32] := by
 unfold Cu; rw [if_neg (by simpa using h)]
 generalize Bb r.gen = ds
 generalize Fc p.updates = tx
 have hs : (Mb ++ ds ++ WB ++ tx).size = 4 + ds.size + 1 + tx.size := by
  rw [ByteArray.size_append, ByteArray.size_append, ByteArray.size_append]; rfl
 refine ⟨by omega, ?_⟩
 have e : (Mb ++ ds ++ WB ++ tx).extract 0 4 = Mb := by
  apply ByteArray.ext
  rw [ByteArray.data_extract, ByteArray.data_append, ByteArray.data_append, ByteArray.data_append]
  apply Array.toList_inj.1
  rw [Array.toList_extract, Array.toList_append, Array.toList_append, Array.toList_append]
  rfl
 rw [e]; decide +kernel
end Go.Proofs.YtjdgpgfiomnjkaaGreatDoor
namespace Go.Proofs.YtjdgpgfiomnjkaaGreatDoor
def Nl (m : List Obj) (o : Obj) : Bool := !CJ m o.id
def Iv (l m : List Obj) : List Obj := l.filter (Nl m)
def Df (l m : List Obj) (k : Nat) : List Obj := (l.take k).filter (Nl m)
def DZ (l m : List Obj) (k : Nat) : Int := if CJ m (obj l k).id = true ∧ Bu (obj l k) (obj m (lo m (obj l k).id)) = false then 6 else 0
def Ep (l m : List Obj) : Int := Ao (DZ l m) l.length
def CH (l m : List Obj) : List Obj := if Ep l m = 0 then Iv l m else []
def SP (l m : List Obj) : Int := if Af l ≠ 0 then Af l else if Af m ≠ 0 then Af m else Ep l m
def XC (l m : List Obj) : List Obj := if SP l m = 0 then Iv l m else []
theorem PH (l m : List Obj) : Df l m 0 = [] := rfl
theorem Ky {l m : List Obj} {k : Nat} (hk : k < l.length) (h : CJ m (obj l k).id = true) : Df l m (k + 1) = Df l m k := by
 unfold Df Nl
 rw [Gc hk, List.filter_append]
 simp [h]
theorem MR {l m : List Obj} {k : Nat} (hk : k < l.length) (h : CJ m (obj l k).id = false) : Df l m (k + 1) = Df l m k ++ [obj l k] := by
 unfold Df Nl
 rw [Gc hk, List.filter_append]
 simp [h]
theorem MT (l m : List Obj) : Df l m l.length = Iv l m := by unfold Df Iv; rw [List.take_length]
theorem Jj (l m : List Obj) (k : Nat) : (Df l m k).length ≤ k := by
 unfold Df
 have h1 := List.length_filter_le (Nl m) (l.take k)
 rw [List.length_take] at h1; omega
theorem GD (l m : List Obj) : (Iv l m).length ≤ l.length := List.length_filter_le _ _
theorem QQ {l m : List Obj} {x : Obj} : x ∈ Iv l m ↔ x ∈ l ∧ CJ m x.id = false := by
 unfold Iv Nl; rw [List.mem_filter]; simp
theorem Lf {l m : List Obj} {k : Nat} (h : CJ m (obj l k).id = false) : DZ l m k = 0 := by unfold DZ; rw [if_neg (by simp [h])]
theorem Kj {l m : List Obj} {k : Nat} (h : Bu (obj l k) (obj m (lo m (obj l k).id)) = true) : DZ l m k = 0 := by unfold DZ; rw [if_neg (by simp [h])]
theorem Je {l m : List Obj} {k : Nat} (h : CJ m (obj l k).id = true) (h2 : Bu (obj l k) (obj m (lo m (obj l k).id)) = false) : DZ l m k = 6 := by unfold DZ; rw [if_pos ⟨h, h2⟩]
theorem Oy {l m : List Obj} : Ep l m = 0 ↔ ∀ x ∈ l, CJ m x.id = true → obj m (lo m x.id) = x := by
 unfold Ep
 constructor
 ·intro h x hx hat
  obtain ⟨i, hi, rfl⟩ := Ia hx
  have := Be h i hi
  cases hs : Bu (obj l i) (obj m (lo m (obj l i).id))
  ·rw [Je hat hs] at this; cases this
  ·exact ((Du _ _).1 hs).symm
 ·intro h
  refine AW fun k hk => ?_
  cases hat : CJ m (obj l k).id
  ·exact Lf hat
  ·exact Kj ((Du _ _).2 (h _ (FR hk) hat).symm)
theorem Xr {l : List Obj} (h : Af l = 0) {x : Obj} (hx : x ∈ l) {k : Nat} (hk : k < x.links.length) : ∃ y ∈ l, y.id < x.id ∧ y.id = Cn x.links k ∧ AZ x k y.kind = 0 := by
 obtain ⟨i, hi, rfl⟩ := Ia hx
 obtain ⟨j, hj, hid, hk2⟩ := (Gq h).linked hi hk
 exact ⟨obj l j, FR (by omega), AR h j i hj hi, hid, hk2⟩
theorem XJ {u v : Mv} (h1 : u.name = v.name) (h2 : u.old = v.old) (h3 : u.new = v.new) : u = v := by cases u; cases v; cases h1; cases h2; cases h3; rfl
end Go.Proofs.YtjdgpgfiomnjkaaGreatDoor
namespace Go.Proofs.YtjdgpgfiomnjkaaGreatDoor
open Go.RowKit
def GX (a b : Mv) : Bool := (a.name.toList == b.name.toList) && (a.old == b.old) && (a.new == b.new)
theorem Mo (a b : Mv) : GX a b = true ↔ a = b := by
 unfold GX
 simp only [Bool.and_eq_true, beq_iff_eq]
 constructor
 ·rintro ⟨⟨h1, h2⟩, h3⟩
  exact XJ (by have := (BB a.name b.name); rw [h1] at this; simpa using this) h2 h3
 ·rintro rfl; exact ⟨⟨rfl, rfl⟩, rfl⟩
theorem Rt (a b : Mv) (w : World) : (binOp .neq 107 (.agg #[.string a.name, .int .i64 a.old, .int .i64 a.new]) (.agg #[.string b.name, .int .i64 b.old, .int .i64 b.new])).run Tryz.prog w = .ok (.bool !GX a b) w := by
 have hS : Tryz.prog.underlying 107 = some (.struct (Tryz.prog.fieldsOf 107)) := by kernel_rfl
 have hp : Tryz.prog.stoodInHeld 107 = false := by kernel_rfl
 have u9 := Tryz.underlying9
 have u3 := Tryz.underlying3
 rw [run_neq_struct, show (10000 : Nat) = 9999 + 1 from rfl, run_equalIn_agg w 9999 107 _ _ hS hp]
 simp only [Program.fieldsOf, Tryz.underlying107]
 unfold GX
 go_simp
 by_cases h1 : a.name.toList = b.name.toList <;> by_cases h2 : a.old = b.old <;> by_cases h3 : a.new = b.new <;> simp [h1, h2, h3]
def DL (xs ys : List Mv) : Bool := decide (xs.length = ys.length) && (List.range xs.length).all fun k => GX (mv xs k) (mv ys k)
theorem Ld (xs ys : List Mv) : DL xs ys = true ↔ xs = ys := by
 unfold DL
 simp only [Bool.and_eq_true, decide_eq_true_eq, List.all_eq_true, List.mem_range, Mo]
 constructor
 ·rintro ⟨h1, h2⟩
  apply List.ext_getElem h1
  intro i hi hi2
  have := h2 i hi
  rwa [CW hi, CW hi2] at this
 ·rintro rfl; exact ⟨rfl, fun _ _ => rfl⟩
theorem QJ {xs ys : List Mv} (h : xs.length ≠ ys.length) : DL xs ys = false := by unfold DL; simp [h]
theorem RE {xs ys : List Mv} {k : Nat} (hk : k < xs.length) (h : GX (mv xs k) (mv ys k) = false) : DL xs ys = false := by
 cases e : DL xs ys
 ·rfl
 ·rw [Ld] at e
  subst e
  rw [(Mo _ _).2 rfl] at h; cases h
theorem Qr {xs ys : List Mv} (hl : xs.length = ys.length) (h : ∀ k, k < xs.length → GX (mv xs k) (mv ys k) = true) : DL xs ys = true := by
 unfold DL
 simp only [Bool.and_eq_true, decide_eq_true_eq, List.all_eq_true, List.mem_range]
 exact ⟨hl, h⟩
theorem LM (xs ys : List Mv) (v v' : Value) (S S' : Nat → Prop) (w : World) (h1 : AM S w v xs) (h2 : AM S' w v' ys) :
  Calls Tryz.prog 66 #[v, v'] w fun e w' => e = .returned (.bool (DL xs ys)) ∧ Below w.heap.size w w' := by
 obtain ⟨a, n, cap, HN, rfl, hc1, hc2, hc8, hc⟩ := h1.open
 obtain ⟨a', n', cap', HN', rfl, hc1', hc2', hc8', hc'⟩ := h2.open
 obtain ⟨R, hR, hR1, _⟩ := Ax w
 have hRb := hR.below
 have hRn := hR.drewN
 by_cases hl : n = n'
 ·subst hl
  have Hall := zh (Qr (xs := xs) (ys := ys) (by rw [← HN.out, ← HN'.out]))
  go_enter Tryz.func66, Tryz.ntmps66
  go_wp2
  go_loopw [5] (fun i wr => ∃ k : Nat, k ≤ n ∧ i = .int .i64 k ∧ Hid (∀ j, j < k → GX (mv xs j) (mv ys j) = true) ∧ In R wr) (fun i _ => n - (intOf i).toNat)
  case atStart => exact ⟨0, by omega, rfl, fun j hj => absurd hj (by omega), hR1⟩
  obtain ⟨k, hk, rfl, Hs, hRw⟩ := hrel
  clear hR1
  by_cases hlt : k < n
  ·obtain ⟨b, off, rfl, hb, k0, k1, k2⟩ := hc (by omega)
   obtain ⟨b', off', rfl, hb', k0', k1', k2'⟩ := hc' (by omega)
   have x0 : ∀ x, In R x → x.cell? ⟨b, off + k * 3, none⟩ = some (.string (mv xs k).name) := fun x hx => k0 k x hlt (hRb x hx)
   have x1 : ∀ x, In R x → x.cell? ⟨b, off + k * 3 + 1, none⟩ = some (.int .i64 (mv xs k).old) := fun x hx => k1 k x hlt (hRb x hx)
   have x2 : ∀ x, In R x → x.cell? ⟨b, off + k * 3 + 2, none⟩ = some (.int .i64 (mv xs k).new) := fun x hx => k2 k x hlt (hRb x hx)
   have x0' : ∀ x, In R x → x.cell? ⟨b', off' + k * 3, none⟩ = some (.string (mv ys k).name) := fun x hx => k0' k x hlt (hRb x hx)
   have x1' : ∀ x, In R x → x.cell? ⟨b', off' + k * 3 + 1, none⟩ = some (.int .i64 (mv ys k).old) := fun x hx => k1' k x hlt (hRb x hx)
   have x2' : ∀ x, In R x → x.cell? ⟨b', off' + k * 3 + 2, none⟩ = some (.int .i64 (mv ys k).new) := fun x hx => k2' k x hlt (hRb x hx)
   clear hc hc' k0 k1 k0' k1' k2 k2'
   have hi1 : (0 : Int) ≤ (k : Int) := by omega
   have hi2 : (k : Int) < (n : Int) := by omega
   have hneq := Rt (mv xs k) (mv ys k)
   cases he : GX (mv xs k) (mv ys k)
   ·rw [he] at hneq
    have Hq := zh (RE (xs := xs) (ys := ys) (k := k) (by rw [← HN.out]; exact hlt) he); clear he
    go_wp2_with fail
    go_quiet (fail)
    go_wp2
    go_ret
    exact ⟨by rw [Hq.out]; rfl, hRb _ (hRn _ _ hRw)⟩
   ·rw [he] at hneq
    have He := zh he; clear he
    go_wp2_with fail
    go_quiet (fail)
    go_wp2
    go_roundw
    case rel => exact ⟨k + 1, by omega, by go_num, Bw Hs.out He.out, hRn _ _ hRw⟩
    case measure => simp [intOf]; omega
  ·have Hk := zh (show DL xs ys = true from Hall.out (fun j hj => Hs.out j (by have := HN.out; omega)))
   go_wp2
   go_ret
   exact ⟨by rw [Hk.out]; rfl, hRb _ hRw⟩
 ·have Hl := zh (QJ (xs := xs) (ys := ys) (by rw [← HN.out, ← HN'.out]; exact hl))
  go_enter Tryz.func66, Tryz.ntmps66
  go_wp2
  go_ret
  exact ⟨by rw [Hl.out]; rfl, hRb _ hR1⟩
def BS (p : BJ) : Bool := decide (p.objects.length = 0) && decide (p.updates.length = 0) && !p.force
def Am (r : An) : Int := if Au r.refs r.store ≠ 0 then Au r.refs r.store else if within r.gen 0 999 = false then 3 else if within r.phase 0 2 = false then 7 else if r.phase ≠ 0 then As r.pend else if BS r.pend = true then 0 else 1
def Fs (a b : BJ) : Bool := BQ a.objects b.objects && DL a.updates b.updates && (a.force == b.force)
theorem Fg (a b : BJ) : Fs a b = true ↔ a = b := by
 unfold Fs
 rw [Bool.and_eq_true, Bool.and_eq_true, Gb, Ld, beq_iff_eq]
 constructor
 ·rintro ⟨⟨h1, h2⟩, h3⟩; cases a; cases b; simp_all
 ·rintro rfl; exact ⟨⟨rfl, rfl⟩, rfl⟩
theorem OT (p : BJ) : Fs p Db = BS p := by
 rw [Bool.eq_iff_iff, Fg]
 unfold BS
 obtain ⟨l, us, f⟩ := p
 cases f <;> simp [Db, List.length_eq_zero_iff]
def EX (a b : An) : Bool := BQ a.store b.store && BD a.refs b.refs && (a.gen == b.gen) && (a.phase == b.phase) && Fs a.pend b.pend
theorem Ls (a b : An) : EX a b = true ↔ a = b := by
 unfold EX
 rw [Bool.and_eq_true, Bool.and_eq_true, Bool.and_eq_true, Bool.and_eq_true, Gb, Eu, beq_iff_eq, beq_iff_eq, Fg]
 constructor
 ·rintro ⟨⟨⟨⟨h1, h2⟩, h3⟩, h4⟩, h5⟩; cases a; cases b; simp_all
 ·rintro rfl; exact ⟨⟨⟨⟨rfl, rfl⟩, rfl⟩, rfl⟩, rfl⟩
theorem Km (r : An) (sv rv ov uv : Value) (S : Nat → Prop) (w : World) (h : AI S w r sv rv ov uv) :
  Calls Tryz.prog 56 #[Bl r sv rv ov uv] w fun e w' => e = .returned (.int .i64 (Am r)) ∧ Below w.heap.size w w' := by
 have HR := zh (show Am r = if Au r.refs r.store ≠ 0 then Au r.refs r.store else if within r.gen 0 999 = false then 3 else if within r.phase 0 2 = false then 7 else if r.phase ≠ 0 then As r.pend else if BS r.pend = true then 0 else 1 from rfl)
 have H := zh h
 obtain ⟨sa, sc, rfl⟩ := h.store.vshape
 obtain ⟨⟨ra, rc⟩, rfl⟩ := h.refs.shape
 obtain ⟨oa, oc, rfl⟩ := h.objs.vshape
 obtain ⟨⟨ua, uc⟩, rfl⟩ := h.upds.shape
 clear h
 simp only [Bl]
 obtain ⟨Q, hQ, hQ1, hy⟩ := Ce w #[.slice sa r.store.length sc, .slice ra r.refs.length rc, .int .i64 r.gen, .int .i64 r.phase, .slice oa r.pend.objects.length oc, .slice ua r.pend.updates.length uc, .bool r.pend.force] 28
 have y0 := hy 0 _ rfl
 have y1 := hy 1 _ rfl
 have y2 := hy 2 _ rfl
 have y3 := hy 3 _ rfl
 have y4 := hy 4 _ rfl
 have y5 := hy 5 _ rfl
 have y6 := hy 6 _ rfl
 have hQb := hQ.below
 have hQn := hQ.next
 have HC := zh (fun x (hx : In Q x) => NX r.refs r.store _ _ _ _ x (H.out.refs.below (hQb _ hx)) (H.out.store.below (hQb _ hx)))
 have HP := zh (fun x (hx : In Q x) => Gg r.pend _ _ _ _ x (H.out.objs.below (hQb _ hx)) (H.out.upds.below (hQb _ hx)))
 clear hy
 have y01 := y0 _ hQ1
 have y11 := y1 _ hQ1
 by_cases e1 : Au r.refs r.store = 0
 case neg =>
  have HF := zh (show Am r = Au r.refs r.store by rw [HR.out, if_pos e1])
  have hq : (Au r.refs r.store != 0) = true := by simpa using e1
  clear e1 HR
  generalize Au r.refs r.store = c at *
  go_enter Tryz.func56, Tryz.ntmps56
  go_wp2_with fail
  refine (HC.out _ hQ1).mono ?_
  rintro e w1 ⟨rfl, hb1⟩
  have hQ2 := hQn _ _ hQ1 hb1
  clear hb1 y01 y11 hQ1
  go_wp2_with fail
  go_ret
  exact ⟨Ae HF.out.symm, hQb _ hQ2⟩
 rw [if_neg (by simpa using e1)] at HR
 rw [e1] at HC
 clear e1
 by_cases egenlo : r.gen < 0
 case pos =>
  have HF := zh (show Am r = 3 by rw [HR.out, if_pos (by unfold within; simp; omega)])
  have hd : decide (r.gen < 0) = true := decide_eq_true egenlo
  clear HR
  go_enter Tryz.func56, Tryz.ntmps56
  go_wp2_with fail
  refine (HC.out _ hQ1).mono ?_
  rintro e w1 ⟨rfl, hb1⟩
  have hQ2 := hQn _ _ hQ1 hb1
  have y22 := y2 _ hQ2
  have y32 := y3 _ hQ2
  have y42 := y4 _ hQ2
  have y52 := y5 _ hQ2
  have y62 := y6 _ hQ2
  clear hb1 y01 y11 hQ1
  go_wp2_with fail
  go_ret
  exact ⟨Ae HF.out.symm, hQb _ hQ2⟩
 by_cases egenhi : 999 < r.gen
 case pos =>
  have HF := zh (show Am r = 3 by rw [HR.out, if_pos (by unfold within; simp; omega)])
  have hd : decide (r.gen < 0) = false := decide_eq_false egenlo
  have hd2 : decide (999 < r.gen) = true := decide_eq_true egenhi
  clear HR
  go_enter Tryz.func56, Tryz.ntmps56
  go_wp2_with fail
  refine (HC.out _ hQ1).mono ?_
  rintro e w1 ⟨rfl, hb1⟩
  have hQ2 := hQn _ _ hQ1 hb1
  have y22 := y2 _ hQ2
  have y32 := y3 _ hQ2
  have y42 := y4 _ hQ2
  have y52 := y5 _ hQ2
  have y62 := y6 _ hQ2
  clear hb1 y01 y11 hQ1
  go_wp2_with fail
  go_ret
  exact ⟨Ae HF.out.symm, hQb _ hQ2⟩
 rw [if_neg (by unfold within; simp; omega)] at HR
 have hg1 : decide (r.gen < 0) = false := decide_eq_false egenlo
 have hg2 : decide (999 < r.gen) = false := decide_eq_false egenhi
 by_cases ephaselo : r.phase < 0
 case pos =>
  have HF := zh (show Am r = 7 by rw [HR.out, if_pos (by unfold within; simp; omega)])
  have hd : decide (r.phase < 0) = true := decide_eq_true ephaselo
  clear HR
  go_enter Tryz.func56, Tryz.ntmps56
  go_wp2_with fail
  refine (HC.out _ hQ1).mono ?_
  rintro e w1 ⟨rfl, hb1⟩
  have hQ2 := hQn _ _ hQ1 hb1
  have y22 := y2 _ hQ2
  have y32 := y3 _ hQ2
  have y42 := y4 _ hQ2
  have y52 := y5 _ hQ2
  have y62 := y6 _ hQ2
  clear hb1 y01 y11 hQ1
  go_wp2_with fail
  go_ret
  exact ⟨Ae HF.out.symm, hQb _ hQ2⟩
 by_cases ephasehi : 2 < r.phase
 case pos =>
  have HF := zh (show Am r = 7 by rw [HR.out, if_pos (by unfold within; simp; omega)])
  have hd : decide (r.phase < 0) = false := decide_eq_false ephaselo
  have hd2 : decide (2 < r.phase) = true := decide_eq_true ephasehi
  clear HR
  go_enter Tryz.func56, Tryz.ntmps56
  go_wp2_with fail
  refine (HC.out _ hQ1).mono ?_
  rintro e w1 ⟨rfl, hb1⟩
  have hQ2 := hQn _ _ hQ1 hb1
  have y22 := y2 _ hQ2
  have y32 := y3 _ hQ2
  have y42 := y4 _ hQ2
  have y52 := y5 _ hQ2
  have y62 := y6 _ hQ2
  clear hb1 y01 y11 hQ1
  go_wp2_with fail
  go_ret
  exact ⟨Ae HF.out.symm, hQb _ hQ2⟩
 rw [if_neg (by unfold within; simp; omega)] at HR
 have hp1 : decide (r.phase < 0) = false := decide_eq_false ephaselo
 have hp2 : decide (2 < r.phase) = false := decide_eq_false ephasehi
 by_cases e3 : r.phase = 0
 case neg =>
  have HF := zh (show Am r = As r.pend by rw [HR.out, if_pos e3])
  have hq : (r.phase != 0) = true := by simpa using e3
  have hd : decide (0 < r.phase) = true := decide_eq_true (by omega)
  clear HR e3
  go_enter Tryz.func56, Tryz.ntmps56
  go_wp2_with fail
  refine (HC.out _ hQ1).mono ?_
  rintro e w1 ⟨rfl, hb1⟩
  have hQ2 := hQn _ _ hQ1 hb1
  have y22 := y2 _ hQ2
  have y32 := y3 _ hQ2
  have y42 := y4 _ hQ2
  have y52 := y5 _ hQ2
  have y62 := y6 _ hQ2
  clear hb1 y01 y11 hQ1
  go_wp2_with fail
  refine (HP.out _ hQ2).mono ?_
  rintro e w3 ⟨rfl, hb3⟩
  have hQ3 := hQn _ _ hQ2 hb3
  go_wp2_with fail
  go_ret
  exact ⟨Ae HF.out.symm, hQb _ hQ3⟩
 rw [if_neg (by simpa using e3)] at HR
 have hq : (r.phase != 0) = false := by simpa using e3
 have hd : decide (0 < r.phase) = false := decide_eq_false (by omega)
 clear e3 HP
 generalize hnp : r.pend.objects.length = np at *
 generalize hnu : r.pend.updates.length = nu at *
 by_cases f1 : np = 0
 case neg =>
  have HF := zh (show Am r = 1 by rw [HR.out, if_neg (by unfold BS; rw [hnp, hnu]; simp; omega)])
  clear HR
  go_enter Tryz.func56, Tryz.ntmps56
  go_wp2_with fail
  refine (HC.out _ hQ1).mono ?_
  rintro e w1 ⟨rfl, hb1⟩
  have hQ2 := hQn _ _ hQ1 hb1
  have y22 := y2 _ hQ2
  have y32 := y3 _ hQ2
  have y42 := y4 _ hQ2
  have y52 := y5 _ hQ2
  have y62 := y6 _ hQ2
  clear hb1 y01 y11 hQ1
  go_wp2_with fail
  go_ret
  exact ⟨Ae HF.out.symm, hQb _ hQ2⟩
 subst f1
 by_cases f2 : nu = 0
 case neg =>
  have HF := zh (show Am r = 1 by rw [HR.out, if_neg (by unfold BS; rw [hnp, hnu]; simp; omega)])
  clear HR
  go_enter Tryz.func56, Tryz.ntmps56
  go_wp2_with fail
  refine (HC.out _ hQ1).mono ?_
  rintro e w1 ⟨rfl, hb1⟩
  have hQ2 := hQn _ _ hQ1 hb1
  have y22 := y2 _ hQ2
  have y32 := y3 _ hQ2
  have y42 := y4 _ hQ2
  have y52 := y5 _ hQ2
  have y62 := y6 _ hQ2
  clear hb1 y01 y11 hQ1
  go_wp2_with fail
  go_ret
  exact ⟨Ae HF.out.symm, hQb _ hQ2⟩
 subst f2
 cases f3 : r.pend.force
 ·have HF := zh (show Am r = 0 by rw [HR.out]; unfold BS; rw [hnp, hnu, f3]; simp)
  rw [f3] at y6 hQ1 y01 y11
  clear HR
  go_enter Tryz.func56, Tryz.ntmps56
  go_wp2_with fail
  refine (HC.out _ hQ1).mono ?_
  rintro e w1 ⟨rfl, hb1⟩
  have hQ2 := hQn _ _ hQ1 hb1
  have y22 := y2 _ hQ2
  have y32 := y3 _ hQ2
  have y42 := y4 _ hQ2
  have y52 := y5 _ hQ2
  have y62 := y6 _ hQ2
  clear hb1 y01 y11 hQ1
  go_wp2_with fail
  go_ret
  exact ⟨Ae HF.out.symm, hQb _ hQ2⟩
 ·have HF := zh (show Am r = 1 by rw [HR.out]; unfold BS; rw [hnp, hnu, f3]; simp)
  rw [f3] at y6 hQ1 y01 y11
  clear HR
  go_enter Tryz.func56, Tryz.ntmps56
  go_wp2_with fail
  refine (HC.out _ hQ1).mono ?_
  rintro e w1 ⟨rfl, hb1⟩
  have hQ2 := hQn _ _ hQ1 hb1
  have y22 := y2 _ hQ2
  have y32 := y3 _ hQ2
  have y42 := y4 _ hQ2
  have y52 := y5 _ hQ2
  have y62 := y6 _ hQ2
  clear hb1 y01 y11 hQ1
  go_wp2_with fail
  go_ret
  exact ⟨Ae HF.out.symm, hQb _ hQ2⟩
theorem JX (p q : BJ) (ov uv ov2 uv2 : Value) (S S' : Nat → Prop) (w : World) (ho : Ag S w ov p.objects) (hu : AM S w uv p.updates) (ho2 : Ag S' w ov2 q.objects) (hu2 : AM S' w uv2 q.updates) :
  Calls Tryz.prog 33 #[Fe p ov uv, Fe q ov2 uv2] w fun e w' => e = .returned (.bool (Fs p q)) ∧ Below w.heap.size w w' := by
 have HD := zh (show Fs p q = (BQ p.objects q.objects && DL p.updates q.updates && (p.force == q.force)) from rfl)
 have Ho := zh ho
 have Hu := zh hu
 have Ho2 := zh ho2
 have Hu2 := zh hu2
 obtain ⟨oa, oc, rfl⟩ := ho.vshape
 obtain ⟨⟨ua, uc⟩, rfl⟩ := hu.shape
 obtain ⟨oa2, oc2, rfl⟩ := ho2.vshape
 obtain ⟨⟨ua2, uc2⟩, rfl⟩ := hu2.shape
 clear ho hu ho2 hu2
 simp only [Fe]
 obtain ⟨Q, hQ, hQ1, hy, hz⟩ := IW w #[.slice oa p.objects.length oc, .slice ua p.updates.length uc, .bool p.force] #[.slice oa2 q.objects.length oc2, .slice ua2 q.updates.length uc2, .bool q.force] 26 26
 have hQb := hQ.below
 have hQn := hQ.next
 have H1 := zh (fun x (hx : In Q x) => Jk p.objects q.objects _ _ _ _ x (Ho.out.below (hQb _ hx)) (Ho2.out.below (hQb _ hx)))
 have H2 := zh (fun x (hx : In Q x) => LM p.updates q.updates _ _ _ _ x (Hu.out.below (hQb _ hx)) (Hu2.out.below (hQb _ hx)))
 have y0 := hy 0 _ rfl _ hQ1
 have z0 := hz 0 _ rfl _ hQ1
 have y1 := hy 1 _ rfl
 have z1 := hz 1 _ rfl
 have y2 := hy 2 _ rfl
 have z2 := hz 2 _ rfl
 clear hy hz
 cases s1 : BQ p.objects q.objects
 ·rw [s1] at H1 HD
  go_enter Tryz.func33, Tryz.ntmps33
  go_wp2_with fail
  refine (H1.out _ hQ1).mono ?_
  rintro e w1 ⟨rfl, hb1⟩
  have hQ2 := hQn _ _ hQ1 hb1
  go_wp2_with fail
  go_ret
  exact ⟨by rw [HD.out]; rfl, hQb _ hQ2⟩
 ·rw [s1] at H1 HD
  cases s2 : DL p.updates q.updates
  ·rw [s2] at H2 HD
   go_enter Tryz.func33, Tryz.ntmps33
   go_wp2_with fail
   refine (H1.out _ hQ1).mono ?_
   rintro e w1 ⟨rfl, hb1⟩
   have hQ2 := hQn _ _ hQ1 hb1
   have y12 := y1 _ hQ2
   have z12 := z1 _ hQ2
   go_wp2_with fail
   refine (H2.out _ hQ2).mono ?_
   rintro e w2 ⟨rfl, hb2⟩
   have hQ3 := hQn _ _ hQ2 hb2
   go_wp2_with fail
   go_ret
   exact ⟨by rw [HD.out]; rfl, hQb _ hQ3⟩
  ·rw [s2] at H2 HD
   go_enter Tryz.func33, Tryz.ntmps33
   go_wp2_with fail
   refine (H1.out _ hQ1).mono ?_
   rintro e w1 ⟨rfl, hb1⟩
   have hQ2 := hQn _ _ hQ1 hb1
   have y12 := y1 _ hQ2
   have z12 := z1 _ hQ2
   go_wp2_with fail
   refine (H2.out _ hQ2).mono ?_
   rintro e w2 ⟨rfl, hb2⟩
   have hQ3 := hQn _ _ hQ2 hb2
   have y23 := y2 _ hQ3
   have z23 := z2 _ hQ3
   go_wp2_with fail
   go_ret
   exact ⟨by rw [HD.out]; rfl, hQb _ hQ3⟩
theorem LL (p q : An) (sv rv ov uv sv2 rv2 ov2 uv2 : Value) (S S' : Nat → Prop) (w : World) (h : AI S w p sv rv ov uv) (h2 : AI S' w q sv2 rv2 ov2 uv2) :
  Calls Tryz.prog 32 #[Bl p sv rv ov uv, Bl q sv2 rv2 ov2 uv2] w fun e w' => e = .returned (.bool (EX p q)) ∧ Below w.heap.size w w' := by
 have HD := zh (show EX p q = (BQ p.store q.store && BD p.refs q.refs && (p.gen == q.gen) && (p.phase == q.phase) && Fs p.pend q.pend) from rfl)
 have H := zh h
 have G := zh h2
 obtain ⟨sa, sc, rfl⟩ := h.store.vshape
 obtain ⟨⟨ra, rc⟩, rfl⟩ := h.refs.shape
 obtain ⟨oa, oc, rfl⟩ := h.objs.vshape
 obtain ⟨⟨ua, uc⟩, rfl⟩ := h.upds.shape
 obtain ⟨Lp, NC, rfl⟩ := h2.store.vshape
 obtain ⟨⟨ra2, rc2⟩, rfl⟩ := h2.refs.shape
 obtain ⟨oa2, oc2, rfl⟩ := h2.objs.vshape
 obtain ⟨⟨ua2, uc2⟩, rfl⟩ := h2.upds.shape
 clear h h2
 simp only [Bl]
 obtain ⟨Q, hQ, hQ1, hy, hz⟩ := IW w #[.slice sa p.store.length sc, .slice ra p.refs.length rc, .int .i64 p.gen, .int .i64 p.phase, .slice oa p.pend.objects.length oc, .slice ua p.pend.updates.length uc, .bool p.pend.force]
  #[.slice Lp q.store.length NC, .slice ra2 q.refs.length rc2, .int .i64 q.gen, .int .i64 q.phase, .slice oa2 q.pend.objects.length oc2, .slice ua2 q.pend.updates.length uc2, .bool q.pend.force] 28 28
 have hQb := hQ.below
 have hQn := hQ.next
 have H1 := zh (fun x (hx : In Q x) => Jk p.store q.store _ _ _ _ x (H.out.store.below (hQb _ hx)) (G.out.store.below (hQb _ hx)))
 have H2 := zh (fun x (hx : In Q x) => Pz p.refs q.refs _ _ _ _ x (H.out.refs.below (hQb _ hx)) (G.out.refs.below (hQb _ hx)))
 have H3 := zh (fun x (hx : In Q x) => JX p.pend q.pend _ _ _ _ _ _ x (H.out.objs.below (hQb _ hx)) (H.out.upds.below (hQb _ hx)) (G.out.objs.below (hQb _ hx)) (G.out.upds.below (hQb _ hx)))
 simp only [Fe] at H3
 have y0 := hy 0 _ rfl _ hQ1
 have z0 := hz 0 _ rfl _ hQ1
 have y1 := hy 1 _ rfl
 have z1 := hz 1 _ rfl
 have y2 := hy 2 _ rfl
 have z2 := hz 2 _ rfl
 have y3 := hy 3 _ rfl
 have z3 := hz 3 _ rfl
 have y4 := hy 4 _ rfl
 have z4 := hz 4 _ rfl
 have y5 := hy 5 _ rfl
 have z5 := hz 5 _ rfl
 have y6 := hy 6 _ rfl
 have z6 := hz 6 _ rfl
 clear hy hz
 cases s1 : BQ p.store q.store
 ·rw [s1] at H1 HD
  go_enter Tryz.func32, Tryz.ntmps32
  go_wp2_with fail
  refine (H1.out _ hQ1).mono ?_
  rintro e w1 ⟨rfl, hbw1⟩
  have hQ2 := hQn _ _ hQ1 hbw1
  go_wp2_with fail
  go_ret
  exact ⟨by rw [HD.out]; rfl, hQb _ hQ2⟩
 ·rw [s1] at H1 HD
  cases s2 : BD p.refs q.refs
  ·rw [s2] at H2 HD
   go_enter Tryz.func32, Tryz.ntmps32
   go_wp2_with fail
   refine (H1.out _ hQ1).mono ?_
   rintro e w1 ⟨rfl, hbw1⟩
   have hQ2 := hQn _ _ hQ1 hbw1
   have y1zhQ2 := y1 _ hQ2
   have z1zhQ2 := z1 _ hQ2
   go_wp2_with fail
   refine (H2.out _ hQ2).mono ?_
   rintro e w2 ⟨rfl, hbw2⟩
   have hQ3 := hQn _ _ hQ2 hbw2
   go_wp2_with fail
   go_ret
   exact ⟨by rw [HD.out]; rfl, hQb _ hQ3⟩
  ·rw [s2] at H2 HD
   cases s3 : (p.gen == q.gen)
   ·rw [s3] at HD
    go_enter Tryz.func32, Tryz.ntmps32
    go_wp2_with fail
    refine (H1.out _ hQ1).mono ?_
    rintro e w1 ⟨rfl, hbw1⟩
    have hQ2 := hQn _ _ hQ1 hbw1
    have y1zhQ2 := y1 _ hQ2
    have z1zhQ2 := z1 _ hQ2
    go_wp2_with fail
    refine (H2.out _ hQ2).mono ?_
    rintro e w2 ⟨rfl, hbw2⟩
    have hQ3 := hQn _ _ hQ2 hbw2
    have y2zhQ3 := y2 _ hQ3
    have z2zhQ3 := z2 _ hQ3
    go_wp2_with fail
    go_ret
    exact ⟨by rw [HD.out]; rfl, hQb _ hQ3⟩
   ·rw [s3] at HD
    cases s4 : (p.phase == q.phase)
    ·rw [s4] at HD
     go_enter Tryz.func32, Tryz.ntmps32
     go_wp2_with fail
     refine (H1.out _ hQ1).mono ?_
     rintro e w1 ⟨rfl, hbw1⟩
     have hQ2 := hQn _ _ hQ1 hbw1
     have y1zhQ2 := y1 _ hQ2
     have z1zhQ2 := z1 _ hQ2
     go_wp2_with fail
     refine (H2.out _ hQ2).mono ?_
     rintro e w2 ⟨rfl, hbw2⟩
     have hQ3 := hQn _ _ hQ2 hbw2
     have y2zhQ3 := y2 _ hQ3
     have z2zhQ3 := z2 _ hQ3
     have y3zhQ3 := y3 _ hQ3
     have z3zhQ3 := z3 _ hQ3
     go_wp2_with fail
     go_ret
     exact ⟨by rw [HD.out]; rfl, hQb _ hQ3⟩
    ·rw [s4] at HD
     go_enter Tryz.func32, Tryz.ntmps32
     go_wp2_with fail
     refine (H1.out _ hQ1).mono ?_
     rintro e w1 ⟨rfl, hbw1⟩
     have hQ2 := hQn _ _ hQ1 hbw1
     have y1zhQ2 := y1 _ hQ2
     have z1zhQ2 := z1 _ hQ2
     go_wp2_with fail
     refine (H2.out _ hQ2).mono ?_
     rintro e w2 ⟨rfl, hbw2⟩
     have hQ3 := hQn _ _ hQ2 hbw2
     have y2zhQ3 := y2 _ hQ3
     have z2zhQ3 := z2 _ hQ3
     have y3zhQ3 := y3 _ hQ3
     have z3zhQ3 := z3 _ hQ3
     have y4zhQ3 := y4 _ hQ3
     have z4zhQ3 := z4 _ hQ3
     have y5zhQ3 := y5 _ hQ3
     have z5zhQ3 := z5 _ hQ3
     have y6zhQ3 := y6 _ hQ3
     have z6zhQ3 := z6 _ hQ3
     go_wp2_with fail
     refine (H3.out _ hQ3).mono ?_
     rintro e w3 ⟨rfl, hbw3⟩
     have hQ4 := hQn _ _ hQ3 hbw3
     go_wp2_with fail
     go_ret
     exact ⟨by rw [HD.out]; rfl, hQb _ hQ4⟩
theorem AF.bytes {S : Nat → Prop} {w : World} {v : Value} {l : List Rf} (h : AF S w v l) : l.length * 24 ≤ 140737488351232 :=
 let ⟨⟨_, _, _, _, _, h3, _⟩, _⟩ := h; h3
def SW (w w' : World) (e : Ending) (r : An) (c : Int) : Prop := ∃ sv rv ov uv, e = .returned (.tuple #[Bl r sv rv ov uv, .int .i64 c]) ∧ AI (fun _ => True) w' r sv rv ov uv ∧ Below w.heap.size w w'
def FN (w w' : World) (e : Ending) (r : An) (c : Int) : Prop := ∃ sv rv ov uv, e = .returned (.tuple #[Bl r sv rv ov uv, .int .i64 c]) ∧ AI (fun b => w.heap.size ≤ b) w' r sv rv ov uv ∧ Below w.heap.size w w'
theorem FN.e {w w' : World} {e : Ending} {r : An} {c : Int} (h : FN w w' e r c) : SW w w' e r c := let ⟨_, _, _, _, h1, h2, h3⟩ := h; ⟨_, _, _, _, h1, h2.weaken fun _ _ => trivial, h3⟩
def PA (A : Nat → Prop) (w w' : World) (e : Ending) (r : An) (c : Int) : Prop := ∃ sv rv ov uv, e = .returned (.tuple #[Bl r sv rv ov uv, .int .i64 c]) ∧ AI (fun b => A b ∨ w.heap.size ≤ b) w' r sv rv ov uv ∧ Below w.heap.size w w'
theorem PA.e {A : Nat → Prop} {w w' : World} {e : Ending} {r : An} {c : Int} (h : PA A w w' e r c) : SW w w' e r c := let ⟨_, _, _, _, h1, h2, h3⟩ := h; ⟨_, _, _, _, h1, h2.weaken fun _ _ => trivial, h3⟩
theorem Eb (S : Nat → Prop) (w : World) : AI S w Ds (.slice none 0 0) (.slice none 0 0) (.slice none 0 0) (.slice none 0 0) :=
 ⟨Ag.nil _ _ _ _ (by omega), AF.nil _ _ _ _ (by omega), Ag.nil _ _ _ _ (by omega), AM.nil _ _ _ _ (by omega), by unfold DO; decide, by unfold DO; decide⟩
def SY : Array Value := #[.slice none 0 0, .slice none 0 0, .int .i64 0, .int .i64 0, .slice none 0 0, .slice none 0 0, .bool false]
theorem FS : ∀ (os : List Go.Obj) (w : World), Below w.heap.size w (os.foldl World.alloc w)
 | [], w => Below.refl _ _
 | o :: os, w => Below.trans ((Below.refl w.heap.size w).alloc (Nat.le_refl _) o) ((FS os (w.alloc o)).mono (by simp))
theorem Nw : ∀ (os : List Go.Obj) (w : World), (os.foldl World.alloc w).heap.size = w.heap.size + os.length
 | [], w => rfl
 | o :: os, w => by rw [List.foldl_cons, Nw os]; simp; omega
theorem Gz : ∀ (os : List Go.Obj) (w : World) (j : Nat) (o : Go.Obj), os[j]? = some o → (os.foldl World.alloc w).heap[w.heap.size + j]? = some o
 | [], w, j, o, h => by simp at h
 | o' :: os, w, 0, o, h => by
  obtain rfl : o' = o := by simpa using h
  rw [List.foldl_cons, (FS os (w.alloc o')).block _ (by simp)]
  exact heap_alloc_new w o'
 | o' :: os, w, j + 1, o, h => by
  have := Gz os (w.alloc o') j o (by simpa using h)
  rw [List.foldl_cons, show w.heap.size + (j + 1) = (w.alloc o').heap.size + j by simp; omega]
  exact this
theorem AL (w : World) (os : List Go.Obj) : ∃ R : World → Prop, VC w R ∧ In R (os.foldl World.alloc w) ∧ ∀ x, In R x → ∀ j o, os[j]? = some o → x.heap[w.heap.size + j]? = some o := by
 refine ⟨_, ID w (os.foldl World.alloc w) (w.heap.size + os.length) (by omega) (by rw [Nw]; exact Nat.le_refl _) (FS os w), Below.refl _ _, fun x hx j o hj => ?_⟩
 have hlt := (List.getElem?_eq_some_iff.1 hj).1
 rw [Below.block hx _ (by omega)]
 exact Gz os w j o hj
theorem AI.lt {S : Nat → Prop} {w : World} {r : An} {sv rv ov uv : Value} (h : AI S w r sv rv ov uv) : AI (fun b => S b ∧ b < w.heap.size) w r sv rv ov uv :=
 ⟨h.store.lt, h.refs.lt, h.objs.lt, h.upds.lt, h.gen, h.phase⟩
theorem AI.upd {S T : Nat → Prop} {w w' : World} {r : An} {sv rv ov uv : Value} (h : AI S w r sv rv ov uv) (hu : Aq T w w') (hT : ∀ b, S b → ¬ T b) : AI S w' r sv rv ov uv :=
 ⟨h.store.upd' hu hT, h.refs.upd hu hT, h.objs.upd' hu hT, h.upds.upd hu hT, h.gen, h.phase⟩
theorem Ez {r : An} (h : Am r = 0) : Af r.store = 0 := by
 unfold Am at h
 split at h
 ·rename_i h1; exact absurd h h1
 ·rename_i h1
  have h2 : Au r.refs r.store = 0 := by simpa using h1
  unfold Au at h2
  split at h2
  ·rename_i h3; exact absurd h2 h3
  ·rename_i h3; simpa using h3
def DD (r : An) : An := ⟨r.store, r.refs, r.gen, 0, Db⟩
def Ij (r : An) (ph : Int) : Int := if Am r ≠ 0 then Am r else if r.phase ≠ ph then 4 else 0
def Cl (r : An) (p : BJ) : An := ⟨r.store, r.refs, r.gen, 1, p⟩
def Jh (r : An) (p : BJ) : Int := if Ij r 0 ≠ 0 then Ij r 0 else As p
def Ir (r : An) (p : BJ) : An := if Jh r p = 0 then Cl r p else Ds
def Cc (r : An) : An := ⟨r.store, r.refs, r.gen, 2, r.pend⟩
def NR (r : An) : An := if Ij r 1 = 0 then Cc r else Ds
def LP (r : An) : ByteArray := if Ij r 1 = 0 then Cu r r.pend else ByteArray.empty
def OC (r : An) : Int := if Bn r r.pend ≠ 0 then Bn r r.pend else if r.gen = 999 then 2 else 0
def DU (r : An) (p : BJ) : An := ⟨Fm r p, EJ r p, r.gen + 1, 0, Db⟩
def Sa (r : An) (commit : Bool) : Int := if commit = true then OC r else 0
def Ti (r : An) (commit : Bool) : An := if commit = true then DU r r.pend else DD r
def Ke (r : An) (commit : Bool) : Int := if Ij r 2 ≠ 0 then Ij r 2 else Sa r commit
def LH (r : An) (commit : Bool) : An := if Ke r commit = 0 then Ti r commit else Ds
def MJ (r : An) : An := if Am r = 0 then DD r else Ds
theorem Kt {r : An} {ph : Int} (h : Ij r ph = 0) : Am r = 0 ∧ r.phase = ph := by
 unfold Ij at h
 by_cases h1 : Am r = 0
 ·rw [if_neg (by simpa using h1)] at h
  by_cases h2 : r.phase = ph
  ·exact ⟨h1, h2⟩
  ·rw [if_pos h2] at h; cases h
 ·rw [if_pos h1] at h; exact absurd h h1
theorem MQ {r : An} {ph : Int} (h1 : Am r = 0) (h2 : r.phase = ph) : Ij r ph = 0 := by
 unfold Ij; rw [if_neg (by simpa using h1), if_neg (by simpa using h2)]
theorem WK {r : An} {ph : Int} (h1 : Am r = 0) (h2 : r.phase ≠ ph) : Ij r ph = 4 := by
 unfold Ij; rw [if_neg (by simpa using h1), if_pos h2]
theorem Oj {r : An} {ph : Int} (h1 : Am r ≠ 0) : Ij r ph = Am r := by unfold Ij; rw [if_pos h1]
structure Ct (r : An) : Prop where
 refs : Au r.refs r.store = 0
 gen : 0 ≤ r.gen ∧ r.gen ≤ 999
 phase : 0 ≤ r.phase ∧ r.phase ≤ 2
 held : r.phase ≠ 0 → As r.pend = 0
 none : r.phase = 0 → r.pend = Db
theorem Bf {r : An} : Am r = 0 ↔ Ct r := by
 unfold Am
 constructor
 ·intro h
  split at h
  ·rename_i h1; exact absurd h h1
  ·rename_i h1
   split at h
   ·cases h
   ·rename_i h2
    split at h
    ·cases h
    ·rename_i h3
     refine ⟨by simpa using h1, Bt (by simpa using h2), Bt (by simpa using h3), fun hp => ?_, fun hp => ?_⟩
     ·rw [if_pos hp] at h; exact h
     ·rw [if_neg (by simpa using hp)] at h
      split at h
      ·rename_i h4
       rw [← OT] at h4
       exact (Fg _ _).1 h4
      ·cases h
 ·intro h
  rw [if_neg (by simpa using h.refs), if_neg (by simp [within, h.gen.1, h.gen.2]), if_neg (by simp [within, h.phase.1, h.phase.2])]
  by_cases hp : r.phase = 0
  ·rw [if_neg (by simpa using hp), h.none hp, if_pos (by simp [BS, Db])]
  ·rw [if_pos hp]; exact h.held hp
theorem RY {r : An} (h : Ct r) : Ct (DD r) := ⟨h.refs, h.gen, ⟨by simp [DD], by simp [DD]⟩, fun hp => absurd rfl hp, fun _ => rfl⟩
theorem MG {r : An} {p : BJ} (h : Ct r) (hp : As p = 0) : Ct (Cl r p) := ⟨h.refs, h.gen, ⟨by simp [Cl], by simp [Cl]⟩, fun _ => hp, fun h0 => by simp [Cl] at h0⟩
theorem LA {r : An} (h : Ct r) (hp : As r.pend = 0) : Ct (Cc r) := ⟨h.refs, h.gen, ⟨by simp [Cc], by simp [Cc]⟩, fun _ => hp, fun h0 => by simp [Cc] at h0⟩
theorem Mg {r : An} {p : BJ} (h : Ct r) (ht : Bn r p = 0) (hg : r.gen ≠ 999) : Ct (DU r p) := by
 have hT := RS ht
 refine ⟨?_, by have := h.gen; simp only [DU]; omega, ⟨by simp [DU], by simp [DU]⟩, fun hp => absurd rfl hp, fun _ => rfl⟩
 show Au (EJ r p) (Fm r p) = 0
 unfold Au
 rw [if_neg (by simpa using hT.store)]; exact hT.right
theorem Tr {r : An} (h : Ct r) (hp : r.phase = 0) : DD r = r := by
 have := h.none hp
 unfold DD
 rw [← this, ← hp]
theorem OH {r : An} {p : BJ} (h : Jh r p = 0) : Ct r ∧ r.phase = 0 ∧ As p = 0 ∧ Ir r p = Cl r p := by
 have hR : Ir r p = Cl r p := by unfold Ir; rw [if_pos h]
 unfold Jh at h
 by_cases h1 : Ij r 0 = 0
 ·rw [if_neg (by simpa using h1)] at h
  exact ⟨Bf.1 (Kt h1).1, (Kt h1).2, h, hR⟩
 ·rw [if_pos h1] at h; exact absurd h h1
structure XE (r : An) (p : BJ) : Prop where
 a : Ir r p = Cl r p
 vot : Ij (Cl r p) 1 = 0 ∧ NR (Cl r p) = Cc (Cl r p) ∧ LP (Cl r p) = Cu r p
 same : Cu r p ≠ ByteArray.empty
 ca : Am (Cl r p) = 0 ∧ MJ (Cl r p) = r
 cb : Am (Cc (Cl r p)) = 0 ∧ MJ (Cc (Cl r p)) = r
 fin : Ke (Cc (Cl r p)) false = 0 ∧ LH (Cc (Cl r p)) false = r
theorem Td (r : An) (p : BJ) : Cu r p ≠ ByteArray.empty := by
 intro h
 have h1 : (Cu r p).size = 0 := by rw [h]; rfl
 by_cases ht : Bn r p = 0
 ·have := (UN ht).1; omega
 ·have := SX ht; omega
theorem apart {r : An} {p : BJ} (h : Jh r p = 0) : XE r p := by
 obtain ⟨hr, h0, hp, hR⟩ := OH h
 have hh := MG hr hp
 have hv : Ct (Cc (Cl r p)) := LA hh hp
 have e1 : Ij (Cl r p) 1 = 0 := MQ (Bf.2 hh) rfl
 have e2 : Ij (Cc (Cl r p)) 2 = 0 := MQ (Bf.2 hv) rfl
 have ei : DD r = r := Tr hr h0
 refine ⟨hR, ⟨e1, by unfold NR; rw [if_pos e1], by unfold LP; rw [if_pos e1]; rfl⟩, Td r p, ⟨Bf.2 hh, by unfold MJ; rw [if_pos (Bf.2 hh)]; exact ei⟩, ⟨Bf.2 hv, by unfold MJ; rw [if_pos (Bf.2 hv)]; exact ei⟩, ?_⟩
 have ef : Ke (Cc (Cl r p)) false = 0 := by unfold Ke; rw [if_neg (by simpa using e2)]; rfl
 exact ⟨ef, by unfold LH; rw [if_pos ef]; exact ei⟩
theorem Yn {r : An} {p : BJ} (h : Jh r p = 0) : Ke (Cc (Cl r p)) true = (if Bn r p ≠ 0 then Bn r p else if r.gen = 999 then 2 else 0) ∧
  (Bn r p = 0 → r.gen ≠ 999 → LH (Cc (Cl r p)) true = DU r p ∧ Am (DU r p) = 0) := by
 obtain ⟨hr, h0, hp, hR⟩ := OH h
 have hv : Ct (Cc (Cl r p)) := LA (MG hr hp) hp
 have e2 : Ij (Cc (Cl r p)) 2 = 0 := MQ (Bf.2 hv) rfl
 have ef : Ke (Cc (Cl r p)) true = (if Bn r p ≠ 0 then Bn r p else if r.gen = 999 then 2 else 0) := by
  unfold Ke; rw [if_neg (by simpa using e2)]; rfl
 refine ⟨ef, fun ht hg => ⟨?_, Bf.2 (Mg hr ht hg)⟩⟩
 unfold LH
 rw [if_pos (by rw [ef, if_neg (by simpa using ht), if_neg hg])]; rfl
end Go.Proofs.YtjdgpgfiomnjkaaGreatDoor
