
/- ObjB: Read, Read2, Told, Told2, Dec, Begun1. -/
import Derived.Test.YtkaoldnhooojiaaGreatDoorObjA
import Derived.Test.YtkaoldnhooojiaaGreatDoorBase
import Derived.Deep.AppendLies
import Derived.Deep.RegionLaw
import Derived.Recover
import Derived.Defers
import Derived.RegionTactic
import Derived.BigRegion
/- Walks: package object, the reader. -/
namespace Go.Proofs.YtkaoldnhooojiaaGreatDoor
open Go.RowKit
set_option linter.unusedVariables false
set_option linter.unusedSimpArgs false

end Go.Proofs.YtkaoldnhooojiaaGreatDoor

/- Walks: package object, the reader: an object. -/
namespace Go.Proofs.YtkaoldnhooojiaaGreatDoor
open Go.RowKit
set_option linter.unusedVariables false
set_option linter.unusedSimpArgs false

theorem Tryz.infoInt : (Tryz.prog.info? 3).map (fun i => (i.zero, i.size, i.bytes)) = some (some (.int .i64 0), 1, 8) := by kernel_rfl

def zeroObj : Go.Obj := .cells #[.int .i64 0, .int .i64 0, .slice none 0 0, .string ⟨#[]⟩] 89

end Go.Proofs.YtkaoldnhooojiaaGreatDoor

/- Walks: package object: told: a text that ends too soon is given up by a panic, which is recovered. -/
namespace Go.Proofs.YtkaoldnhooojiaaGreatDoor
open Go.RowKit
set_option linter.unusedVariables false
set_option linter.unusedSimpArgs false

end Go.Proofs.YtkaoldnhooojiaaGreatDoor

/- Walks: package object: told, Decode. -/
namespace Go.Proofs.YtkaoldnhooojiaaGreatDoor
open Go.RowKit
set_option linter.unusedVariables false
set_option linter.unusedSimpArgs false

def ToldIs (s : ByteArray) (w : World) (e : Ending) (w' : World) : Prop :=
  ((rawOk s ∧ ∃ lv, e = .returned (.tuple #[.agg #[.int .i64 (rawObj s).id, .int .i64 (rawObj s).kind, lv, .string (rawObj s).text], .int .i64 (rawLen s), .bool true]) ∧ ObjIs (fun b => w.heap.size ≤ b) w' (rawObj s) lv) ∨
   (¬ rawOk s ∧ e = .returned (.tuple #[.agg #[.int .i64 0, .int .i64 0, .slice none 0 0, .string ⟨#[]⟩], .int .i64 0, .bool false]))) ∧ Below w.heap.size w w'

theorem Sl.upd {S T : Nat → Prop} {w w' : World} {v : Value} {sz bts n : Nat} {cs : Nat → List Value} (h : Sl S w v sz bts n cs) (hu : Upd T w w') (hT : ∀ b, S b → ¬ T b) : Sl S w' v sz bts n cs := by
  obtain ⟨a, cap, hv, h1, h2, h3, h4⟩ := h
  refine ⟨a, cap, hv, h1, h2, h3, fun hn => ?_⟩
  obtain ⟨b, off, ha, hS, hc⟩ := h4 hn
  exact ⟨b, off, ha, hS, fun i hi j u hu' => hu.cell (hc i hi j u hu') (hT b hS)⟩
theorem IntsV.upd {S T : Nat → Prop} {w w' : World} {v : Value} {xs : List Int} (h : IntsV S w v xs) (hu : Upd T w w') (hT : ∀ b, S b → ¬ T b) : IntsV S w' v xs := ⟨h.1.upd hu hT, h.2⟩
theorem ObjIs.upd {S T : Nat → Prop} {w w' : World} {o : Obj} {lv : Value} (h : ObjIs S w o lv) (hu : Upd T w w') (hT : ∀ b, S b → ¬ T b) : ObjIs S w' o lv := ⟨h.1.upd hu hT, h.2⟩
theorem StoreV.upd {S T : Nat → Prop} {w w' : World} {v : Value} {l : List Obj} (h : StoreV S w v l) (hu : Upd T w w') (hT : ∀ b, S b → ¬ T b) : StoreV S w' v l :=
  let ⟨lvs, h1, h2⟩ := h; ⟨lvs, h1.upd hu hT, fun i hi => (h2 i hi).upd hu hT⟩

theorem heap_new (w : World) (o : Go.Obj) (N : Nat) (h : N = w.heap.size) : (w.alloc o).heap[N]? = some o := by subst h; exact heap_alloc_new w o

def set4 (b : Nat) (v0 v1 v2 v3 : Value) (w : World) : World := (((w.setCell ⟨b, 0, none⟩ v0).setCell ⟨b, 1, none⟩ v1).setCell ⟨b, 2, none⟩ v2).setCell ⟨b, 3, none⟩ v3
theorem set4_is {b : Nat} {v0 v1 v2 v3 u0 u1 u2 u3 : Value} {t : TypeId} {w : World} (h0 : w.heap[b]? = some (.cells #[u0, u1, u2, u3] t (0, 0))) :
    (set4 b v0 v1 v2 v3 w).heap[b]? = some (.cells #[v0, v1, v2, v3] t (0, 0)) :=
  block_setCell (j := 3) (block_setCell (j := 2) (block_setCell (j := 1) (block_setCell (j := 0) h0 _) _) _) _
theorem set4_upd (b : Nat) (v0 v1 v2 v3 : Value) (w : World) : Upd (fun x => x = b) w (set4 b v0 v1 v2 v3 w) :=
  Upd.setCell (T := fun x => x = b) (Upd.setCell (T := fun x => x = b) (Upd.setCell (T := fun x => x = b) (Upd.setCell (T := fun x => x = b) (Upd.refl (fun x => x = b) w) (fun _ => rfl) v0) (fun _ => rfl) v1) (fun _ => rfl) v2) (fun _ => rfl) v3

/-- what a text that is long enough leaves -/
def toldGood0 (b : Nat) (v0 v1 v2 v3 m : Value) (w : World) : World :=
  ((set4 b v0 v1 v2 v3 (set4 b v0 v1 v2 v3 w)).setCell ⟨b + 1, 0, none⟩ m).setCell ⟨b + 1 + 1, 0, none⟩ (.bool true)
def toldGood (b : Nat) (v0 v1 v2 v3 m : Value) (w : World) : World := (toldGood0 b v0 v1 v2 v3 m w).drew

theorem toldGood_is {b : Nat} {v0 v1 v2 v3 m u0 u1 u2 u3 n k : Value} {w : World} (h0 : w.heap[b]? = some (.cells #[u0, u1, u2, u3] 89 (0, 0))) (h1 : w.heap[b + 1]? = some (.cells #[n] 3 (0, 0)))
    (h2 : w.heap[b + 1 + 1]? = some (.cells #[k] 4 (0, 0))) :
    (toldGood b v0 v1 v2 v3 m w).heap[b]? = some (.cells #[v0, v1, v2, v3] 89 (0, 0)) ∧ (toldGood b v0 v1 v2 v3 m w).heap[b + 1]? = some (.cells #[m] 3 (0, 0)) ∧
      (toldGood b v0 v1 v2 v3 m w).heap[b + 1 + 1]? = some (.cells #[.bool true] 4 (0, 0)) ∧ Upd (fun x => x = b ∨ x = b + 1 ∨ x = b + 1 + 1) w (toldGood b v0 v1 v2 v3 m w) := by
  have s1 := set4_upd b v0 v1 v2 v3 w
  have s2 := set4_upd b v0 v1 v2 v3 (set4 b v0 v1 v2 v3 w)
  have s3 := s1.trans s2 (fun _ _ h => h)
  have u : Upd (fun x => x = b ∨ x = b + 1 ∨ x = b + 1 + 1) w (toldGood b v0 v1 v2 v3 m w) :=
    Upd.drew (Upd.setCell (Upd.setCell (s3.weaken (fun _ _ h => .inl h)) (fun _ => .inr (.inl rfl)) _) (fun _ => .inr (.inr rfl)) _)
  have q0 := set4_is (v0 := v0) (v1 := v1) (v2 := v2) (v3 := v3) h0
  have r0 := set4_is (v0 := v0) (v1 := v1) (v2 := v2) (v3 := v3) q0
  have q1 := s3.blk h1 (by omega)
  have q2 := s3.blk h2 (by omega)
  unfold toldGood toldGood0
  unfold toldGood toldGood0 at u
  generalize set4 b v0 v1 v2 v3 (set4 b v0 v1 v2 v3 w) = z at *
  have t1 := block_setCell (j := 0) q1 m
  have t2 := (Below.heap_setCell z ⟨b + 1, 0, none⟩ m (b + 1 + 1) (by simp)).trans q2
  have t0 := (Below.heap_setCell z ⟨b + 1, 0, none⟩ m b (by simp)).trans r0
  generalize z.setCell ⟨b + 1, 0, none⟩ m = y at *
  exact ⟨(Below.heap_setCell y ⟨b + 1 + 1, 0, none⟩ (.bool true) b (by simp; omega)).trans t0, (Below.heap_setCell y ⟨b + 1 + 1, 0, none⟩ (.bool true) (b + 1) (by simp)).trans t1, block_setCell (j := 0) t2 (.bool true), u⟩

theorem leaves_nil {P : Program} {fn : Func} {tmps : Array Value} {R : Ending → World → Prop} {w : World} (v : Value) (h1 : (results fn tmps).run P w = .ok v w) (h2 : R (.returned v) w) : Leaves P fn tmps R [] .returning w := ⟨v, h1, h2⟩

end Go.Proofs.YtkaoldnhooojiaaGreatDoor

/- Walks: package object: Decode; the reference's ObjectOf. -/
namespace Go.Proofs.YtkaoldnhooojiaaGreatDoor
open Go.RowKit
set_option linter.unusedVariables false
set_option linter.unusedSimpArgs false

instance (s : ByteArray) : Decidable (rawOk s) := by unfold rawOk; infer_instance

/-- A2: what Decode answers -/
def decE (s : ByteArray) : Int := if rawOk s then checkObj (rawObj s) else 5
def decO (s : ByteArray) : Obj := if decE s = 0 then rawObj s else obj0
def decN (s : ByteArray) : Int := if decE s = 0 then (rawLen s : Int) else 0

def DecIs (s : ByteArray) (w : World) (e : Ending) (w' : World) : Prop :=
  (∃ lv, e = .returned (.tuple #[.agg #[.int .i64 (decO s).id, .int .i64 (decO s).kind, lv, .string (decO s).text], .int .i64 (decN s), .int .i64 (decE s)]) ∧ ObjIs (fun b => w.heap.size ≤ b) w' (decO s) lv) ∧ Below w.heap.size w w'

theorem obj0_is (S : Nat → Prop) (w : World) : ObjIs S w obj0 (.slice none 0 0) :=
  ⟨IntsV.nil _ _ _ _ (by omega), by unfold I64 obj0; decide, by unfold I64 obj0; decide, by decide⟩

/-- behind a new block of four cells: what it holds, and that it may be written -/
theorem cls_var4 (w : World) (v0 v1 v2 v3 : Value) (t : TypeId) : ∃ R : World → Prop, Cls w R ∧ In R (w.alloc (.cells #[v0, v1, v2, v3] t)) ∧
    (∀ x, In R x → x.cell? ⟨w.heap.size, 0, none⟩ = some v0) ∧ (∀ x, In R x → x.cell? ⟨w.heap.size, 1, none⟩ = some v1) ∧
    (∀ x, In R x → x.cell? ⟨w.heap.size, 2, none⟩ = some v2) ∧ (∀ x, In R x → x.cell? ⟨w.heap.size, 3, none⟩ = some v3) ∧
    (∀ x j, In R x → x.frozen? ⟨w.heap.size, j, none⟩ = false) ∧ (∀ x, In R x → x.heap[w.heap.size]? = some (.cells #[v0, v1, v2, v3] t (0, 0))) := by
  have hb : ∀ x, In (fun x => Below (w.heap.size + 1) (w.alloc (.cells #[v0, v1, v2, v3] t)) x) x → x.heap[w.heap.size]? = some (.cells #[v0, v1, v2, v3] t (0, 0)) := fun x hx => by
    rw [Below.block hx w.heap.size (by omega)]; exact heap_alloc_new w _
  exact ⟨_, cls_of w _ (w.heap.size + 1) (by omega) (by simp) ((Below.refl _ _).alloc (Nat.le_refl _) _), Below.refl _ _,
    fun x hx => block_cell (hb x hx) rfl, fun x hx => block_cell (hb x hx) rfl, fun x hx => block_cell (hb x hx) rfl, fun x hx => block_cell (hb x hx) rfl, fun x j hx => block_free (hb x hx), hb⟩

end Go.Proofs.YtkaoldnhooojiaaGreatDoor

/- Walks: the law's own first test of objects. -/
namespace Go.Proofs.YtkaoldnhooojiaaGreatDoor
open Go.RowKit
set_option linter.unusedVariables false
set_option linter.unusedSimpArgs false

def o5 : Obj := ⟨5, 3, [4, 3], tee⟩
def o31 : Obj := ⟨3, 1, [1], tee⟩
def s5 : ByteArray := ⟨#[5, 3, 2, 4, 3, 1, 116]⟩
def s5z : ByteArray := ⟨#[5, 3, 2, 4, 3, 1, 116, 122]⟩
def s3 : ByteArray := ⟨#[5, 3, 2]⟩

theorem begun_check : checkObj o5 = 0 := by decide +kernel
theorem begun_form : checkObj o31 = 1 := by decide +kernel
theorem begun_enc : encE o5 = s5 := by
  unfold encE; rw [begun_check, if_pos rfl]; rfl
theorem begun_raw : rawOk s5z := by decide +kernel
theorem begun_obj : rawObj s5z = o5 := by rfl
theorem begun_decE : decE s5z = 0 := by unfold decE; rw [if_pos begun_raw, begun_obj, begun_check]
theorem begun_decO : decO s5z = o5 := by unfold decO; rw [begun_decE, if_pos rfl, begun_obj]
theorem begun_decN : decN s5z = 7 := by unfold decN; rw [begun_decE, if_pos rfl]; rfl
theorem begun_none : decE s3 = 5 := by unfold decE; rw [if_neg (by decide +kernel)]

/-- the fifth of shelf -/
theorem shelf_five {S : Nat → Prop} {w : World} {v : Value} (h : StoreV S w v shelfL) : ∃ b off cap a2 c2, v = .slice (some ⟨b, off, none⟩) 5 cap ∧ 5 ≤ cap ∧
    (∀ x, Below w.heap.size w x → x.cell? ⟨b, off + 16, none⟩ = some (.int .i64 5)) ∧ (∀ x, Below w.heap.size w x → x.cell? ⟨b, off + 17, none⟩ = some (.int .i64 3)) ∧
    (∀ x, Below w.heap.size w x → x.cell? ⟨b, off + 18, none⟩ = some (.slice a2 2 c2)) ∧ (∀ x, Below w.heap.size w x → x.cell? ⟨b, off + 19, none⟩ = some (.string tee)) ∧ ObjIs S w o5 (.slice a2 2 c2) := by
  obtain ⟨a, n, cap, la, ln, lc, HN, rfl, h1, h2, h3, h4, h5⟩ := h.open
  have hn : n = 5 := HN.out.1
  subst hn
  obtain ⟨b, off, rfl, _, k0, k1, k2, k3⟩ := h4 (by omega)
  have hl : ln 4 = 2 := HN.out.2 4
  refine ⟨b, off, cap, la 4, lc 4, rfl, h1, fun x hx => k0 4 x (by omega) hx, fun x hx => k1 4 x (by omega) hx, fun x hx => ?_, fun x hx => k3 4 x (by omega) hx, ?_⟩
  · have := k2 4 x (by omega) hx; rw [hl] at this; exact this
  · have := h5 4 (by omega); rw [hl] at this; exact this

theorem begun_same : sameObj o5 o5 = true := (sameObj_iff _ _).2 rfl
theorem begun_zero : decO s3 = obj0 := by unfold decO; rw [begun_none]; rfl

theorem o31_is {x wb : World} {t : TypeId} (h : Below (x.alloc (.cells #[.int .i64 1] t)).heap.size (x.alloc (.cells #[.int .i64 1] t)) wb) : ObjIs (fun _ => True) wb o31 (.slice (some ⟨x.heap.size, 0, none⟩) 1 1) := by
  have hi := ints_new x [1] t _ rfl (by simp) (by intro y hy; simp only [List.mem_cons, List.not_mem_nil, or_false] at hy; subst hy; exact small64 _ (by omega))
  exact ⟨(hi.below h).weaken fun _ _ => trivial, small64 _ (by decide), small64 _ (by decide), by decide⟩

end Go.Proofs.YtkaoldnhooojiaaGreatDoor
