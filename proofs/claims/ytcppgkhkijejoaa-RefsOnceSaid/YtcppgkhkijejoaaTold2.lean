/- Walks: package object: told, Decode. -/
import Derived.Test.YtcppgkhkijejoaaTold
import Derived.RegionTactic
import Derived.BigRegion
namespace Go.Proofs.Ytcppgkhkijejoaa
open Go.RowKit
set_option linter.unusedVariables false
set_option linter.unusedSimpArgs false

def ToldIs (s : ByteArray) (w : World) (e : Ending) (w' : World) : Prop :=
  ((rawOk s ∧ ∃ lv, e = .returned (.tuple #[.agg #[.int .i64 (rawObj s).id, .int .i64 (rawObj s).kind, lv, .string (rawObj s).text], .int .i64 (rawLen s), .bool true]) ∧ ObjIs (fun b => w.heap.size ≤ b) w' (rawObj s) lv) ∨
   (¬ rawOk s ∧ e = .returned (.tuple #[.agg #[.int .i64 0, .int .i64 0, .slice none 0 0, .string ⟨#[]⟩], .int .i64 0, .bool false]))) ∧ Below w.heap.size w w'

theorem Sl.upd {S T : Nat → Prop} {w w' : World} {v : Value} {sz bts n : Nat} {cs : Nat → List Value} (h : Sl S w v sz bts n cs) (hu : Upd T w w') (hT : ∀ b, S b → ¬ T b) : Sl S w' v sz bts n cs := by
  obtain ⟨a, cap, hv, h1, h2, h3, h4⟩ := h
  refine ⟨a, cap, hv, h1, h2, h3, fun hn => ?_⟩
  obtain ⟨b, off, ha, hS, hc⟩ := h4 hn
  exact ⟨b, off, ha, hS, fun i hi j u hu' => hu.cell (hc i hi j u hu') (hT b hS)⟩
theorem IntsV.upd {S T : Nat → Prop} {w w' : World} {v : Value} {xs : List Int} (h : IntsV S w v xs) (hu : Upd T w w') (hT : ∀ b, S b → ¬ T b) : IntsV S w' v xs := ⟨h.1.upd hu hT, h.2⟩
theorem ObjIs.upd {S T : Nat → Prop} {w w' : World} {o : Obj} {lv : Value} (h : ObjIs S w o lv) (hu : Upd T w w') (hT : ∀ b, S b → ¬ T b) : ObjIs S w' o lv := ⟨h.1.upd hu hT, h.2⟩
theorem StoreV.upd {S T : Nat → Prop} {w w' : World} {v : Value} {l : List Obj} (h : StoreV S w v l) (hu : Upd T w w') (hT : ∀ b, S b → ¬ T b) : StoreV S w' v l :=
  let ⟨lvs, h1, h2⟩ := h; ⟨lvs, h1.upd hu hT, fun i hi => (h2 i hi).upd hu hT⟩

theorem heap_new (w : World) (o : Go.Obj) (N : Nat) (h : N = w.heap.size) : (w.alloc o).heap[N]? = some o := by subst h; exact heap_alloc_new w o

def set4 (b : Nat) (v0 v1 v2 v3 : Value) (w : World) : World := (((w.setCell ⟨b, 0, none⟩ v0).setCell ⟨b, 1, none⟩ v1).setCell ⟨b, 2, none⟩ v2).setCell ⟨b, 3, none⟩ v3
theorem set4_is {b : Nat} {v0 v1 v2 v3 u0 u1 u2 u3 : Value} {t : TypeId} {w : World} (h0 : w.heap[b]? = some (.cells #[u0, u1, u2, u3] t (0, 0))) :
    (set4 b v0 v1 v2 v3 w).heap[b]? = some (.cells #[v0, v1, v2, v3] t (0, 0)) :=
  block_setCell (j := 3) (block_setCell (j := 2) (block_setCell (j := 1) (block_setCell (j := 0) h0 _) _) _) _
theorem set4_upd (b : Nat) (v0 v1 v2 v3 : Value) (w : World) : Upd (fun x => x = b) w (set4 b v0 v1 v2 v3 w) :=
  Upd.setCell (T := fun x => x = b) (Upd.setCell (T := fun x => x = b) (Upd.setCell (T := fun x => x = b) (Upd.setCell (T := fun x => x = b) (Upd.refl (fun x => x = b) w) (fun _ => rfl) v0) (fun _ => rfl) v1) (fun _ => rfl) v2) (fun _ => rfl) v3

/-- what a text that is long enough leaves -/
def toldGood0 (b : Nat) (v0 v1 v2 v3 m : Value) (w : World) : World :=
  ((set4 b v0 v1 v2 v3 (set4 b v0 v1 v2 v3 w)).setCell ⟨b + 1, 0, none⟩ m).setCell ⟨b + 1 + 1, 0, none⟩ (.bool true)
def toldGood (b : Nat) (v0 v1 v2 v3 m : Value) (w : World) : World := (toldGood0 b v0 v1 v2 v3 m w).drew

theorem toldGood_is {b : Nat} {v0 v1 v2 v3 m u0 u1 u2 u3 n k : Value} {w : World} (h0 : w.heap[b]? = some (.cells #[u0, u1, u2, u3] 24 (0, 0))) (h1 : w.heap[b + 1]? = some (.cells #[n] 3 (0, 0)))
    (h2 : w.heap[b + 1 + 1]? = some (.cells #[k] 4 (0, 0))) :
    (toldGood b v0 v1 v2 v3 m w).heap[b]? = some (.cells #[v0, v1, v2, v3] 24 (0, 0)) ∧ (toldGood b v0 v1 v2 v3 m w).heap[b + 1]? = some (.cells #[m] 3 (0, 0)) ∧
      (toldGood b v0 v1 v2 v3 m w).heap[b + 1 + 1]? = some (.cells #[.bool true] 4 (0, 0)) ∧ Upd (fun x => x = b ∨ x = b + 1 ∨ x = b + 1 + 1) w (toldGood b v0 v1 v2 v3 m w) := by
  have s1 := set4_upd b v0 v1 v2 v3 w
  have s2 := set4_upd b v0 v1 v2 v3 (set4 b v0 v1 v2 v3 w)
  have s3 := s1.trans s2 (fun _ _ h => h)
  have u : Upd (fun x => x = b ∨ x = b + 1 ∨ x = b + 1 + 1) w (toldGood b v0 v1 v2 v3 m w) :=
    Upd.drew (Upd.setCell (Upd.setCell (s3.weaken (fun _ _ h => .inl h)) (fun _ => .inr (.inl rfl)) _) (fun _ => .inr (.inr rfl)) _)
  have q0 := set4_is (v0 := v0) (v1 := v1) (v2 := v2) (v3 := v3) h0
  have r0 := set4_is (v0 := v0) (v1 := v1) (v2 := v2) (v3 := v3) q0
  have q1 := s3.blk h1 (by omega)
  have q2 := s3.blk h2 (by omega)
  unfold toldGood toldGood0
  unfold toldGood toldGood0 at u
  generalize set4 b v0 v1 v2 v3 (set4 b v0 v1 v2 v3 w) = z at *
  have t1 := block_setCell (j := 0) q1 m
  have t2 := (Below.heap_setCell z ⟨b + 1, 0, none⟩ m (b + 1 + 1) (by simp)).trans q2
  have t0 := (Below.heap_setCell z ⟨b + 1, 0, none⟩ m b (by simp)).trans r0
  generalize z.setCell ⟨b + 1, 0, none⟩ m = y at *
  exact ⟨(Below.heap_setCell y ⟨b + 1 + 1, 0, none⟩ (.bool true) b (by simp; omega)).trans t0, (Below.heap_setCell y ⟨b + 1 + 1, 0, none⟩ (.bool true) (b + 1) (by simp)).trans t1, block_setCell (j := 0) t2 (.bool true), u⟩

theorem leaves_nil {P : Program} {fn : Func} {tmps : Array Value} {R : Ending → World → Prop} {w : World} (v : Value) (h1 : (results fn tmps).run P w = .ok v w) (h2 : R (.returned v) w) : Leaves P fn tmps R [] .returning w := ⟨v, h1, h2⟩

set_option maxRecDepth 100000 in
set_option maxHeartbeats 2000000 in
theorem told_any (s : ByteArray) (w : World) (hs : s.size ≤ 9223372036854775807) : Calls Try.prog 56 #[.string s] w (ToldIs s w) := by
  have hmf : ∀ (fn : Fn) (first cap : Array Value) (w : World), (Instr.makeFunc fn first cap).run Try.prog w = .ok (.func fn first cap) w := fun _ _ _ _ => rfl
  go_enter_defers Try.func56, Try.ntmps56
  go_wp2_with fail
  obtain ⟨w0, hw0⟩ : ∃ w0 : World, w0 = (((w.alloc (.cells #[.int .i64 0, .int .i64 0, .slice none 0 0, .string ⟨#[]⟩] 24)).alloc (.cells #[.int .i64 0] 3)).alloc (.cells #[.bool false] 4)).alloc (.cells #[.string s] 99) := ⟨_, rfl⟩
  have hz0 : w0.heap.size = w.heap.size + 4 := by rw [hw0]; simp
  have hb3 : w0.heap[w.heap.size + 1 + 1 + 1]? = some (.cells #[.string s] 99 (0, 0)) := by rw [hw0]; exact heap_new _ _ _ (by simp)
  have hb2 : w0.heap[w.heap.size + 1 + 1]? = some (.cells #[.bool false] 4 (0, 0)) := by
    rw [hw0, Below.heap_alloc _ _ _ (by simp)]; exact heap_new _ _ _ (by simp)
  have hb1 : w0.heap[w.heap.size + 1]? = some (.cells #[.int .i64 0] 3 (0, 0)) := by
    rw [hw0, Below.heap_alloc _ _ _ (by simp), Below.heap_alloc _ _ _ (by simp)]; exact heap_new _ _ _ (by simp)
  have hb0 : w0.heap[w.heap.size]? = some (.cells #[.int .i64 0, .int .i64 0, .slice none 0 0, .string ⟨#[]⟩] 24 (0, 0)) := by
    rw [hw0, Below.heap_alloc _ _ _ (by simp; omega), Below.heap_alloc _ _ _ (by simp; omega), Below.heap_alloc _ _ _ (by simp)]; exact heap_new _ _ _ rfl
  have hbw : Below w.heap.size w w0 := by
    rw [hw0]; exact ((((Below.refl _ _).alloc (Nat.le_refl _) _).alloc (by simp) _).alloc (by simp; omega) _).alloc (by simp; omega) _
  rw [← hw0]
  have Hw0 := Lib.hid hw0; clear hw0
  refine (object_any s (w.heap.size + 1 + 1 + 1) w0 hb3 hs).mono ?_
  rintro e w4 (⟨hok, lv, rfl, ho, h3, hu⟩ | ⟨hno, rfl, hu⟩)
  · have hbw4 := hbw.trans (hu.below (B := w.heap.size) (by omega) (fun b hb => by omega))
    have k0 := hu.blk hb0 (by omega)
    have k1 := hu.blk hb1 (by omega)
    have k2 := hu.blk hb2 (by omega)
    have K0 := Lib.hid k0
    have K1 := Lib.hid k1
    have K2 := Lib.hid k2
    have c0 := block_cell (j := 0) k0 rfl
    have c1 := block_cell (j := 1) k0 rfl
    have c2 := block_cell (j := 2) k0 rfl
    have c3 := block_cell (j := 3) k0 rfl
    have f0 := block_free (j := 0) k0
    have f1 := block_free (j := 1) k0
    have f2 := block_free (j := 2) k0
    have f3 := block_free (j := 3) k0
    have c4 := block_cell (j := 0) k1 rfl
    have f4 := block_free (j := 0) k1
    have c5 := block_cell (j := 0) k2 rfl
    have f5 := block_free (j := 0) k2
    have c6 := block_cell (j := 0) h3 rfl
    have Hok := Lib.hid hok
    have Ho := Lib.hid ho
    have hrl : rawLen s ≤ s.size := by unfold rawLen; exact hok.2.2
    have hrs := rest_size hrl
    obtain ⟨q, hq⟩ := ho.1.shape
    subst hq
    clear hok ho hu k0 k1 k2 hb0 hb1 hb2 hb3 hz0 h3
    go_wp2
    go_region
    go_wp2
    refine leaves_cons (f := 76) (args := #[.pointer (some ⟨w.heap.size, 0, none⟩), .pointer (some ⟨w.heap.size + 1, 0, none⟩), .pointer (some ⟨w.heap.size + 1 + 1, 0, none⟩)]) (by simp) (by simp [go_sem]) ?_
    refine (told_idle _ _ _ _).mono ?_
    rintro e u' w5 ⟨rfl, rfl, rfl⟩
    obtain ⟨g0, g1, g2, gu⟩ := toldGood_is (v0 := .int .i64 (rawObj s).id) (v1 := .int .i64 (rawObj s).kind) (v2 := .slice q.1 (rawObj s).links.length q.2) (v3 := .string (rawObj s).text) (m := .int .i64 ((s.size : Int) - (s.size - rawLen s : Nat))) K0.out K1.out K2.out
    refine leaves_nil (w := (toldGood w.heap.size (.int .i64 (rawObj s).id) (.int .i64 (rawObj s).kind) (.slice q.1 (rawObj s).links.length q.2) (.string (rawObj s).text) (.int .i64 ((s.size : Int) - (s.size - rawLen s : Nat))) w4)) (.tuple #[.agg #[.int .i64 (rawObj s).id, .int .i64 (rawObj s).kind, .slice q.1 (rawObj s).links.length q.2, .string (rawObj s).text], .int .i64 ((s.size : Int) - (s.size - rawLen s : Nat)), .bool true]) ?_ ?_
    · have e0 := block_cell (j := 0) g0 rfl
      have e1 := block_cell (j := 1) g0 rfl
      have e2 := block_cell (j := 2) g0 rfl
      have e3 := block_cell (j := 3) g0 rfl
      have e4 := block_cell (j := 0) g1 rfl
      have e5 := block_cell (j := 0) g2 rfl
      clear gu g0 g1 g2 c0 c1 c2 c3 c4 c5 c6 f0 f1 f2 f3 f4 f5
      generalize toldGood w.heap.size (.int .i64 (rawObj s).id) (.int .i64 (rawObj s).kind) (.slice q.1 (rawObj s).links.length q.2) (.string (rawObj s).text) (.int .i64 ((s.size : Int) - (s.size - rawLen s : Nat))) w4 = wf at *
      simp [results, Try.results56, go_sem, *]
    · have hz := hbw4.size
      have hob := Ho.out
      unfold ToldIs
      refine ⟨.inl ⟨Hok.out, .slice q.1 (rawObj s).links.length q.2, ?_, ?_⟩, ?_⟩
      · rw [show (s.size : Int) - (s.size - rawLen s : Nat) = (rawLen s : Int) from by omega]
      · have hz0 : w0.heap.size = w.heap.size + 4 := by rw [Hw0.out]; simp
        exact (hob.upd gu (fun b hb h => by omega)).weaken (fun b hb => by omega)
      · exact hbw4.trans (gu.below (B := w.heap.size) (by omega) (fun b hb => by omega))
  · refine leaves_cons (f := 76) (args := #[.pointer (some ⟨w.heap.size, 0, none⟩), .pointer (some ⟨w.heap.size + 1, 0, none⟩), .pointer (some ⟨w.heap.size + 1 + 1, 0, none⟩)]) (by simp) (by simp [go_sem]) ?_
    refine (told_caught _ _ _ _ _ _ _ _ _ _ (hu.blk hb0 (by omega)) (hu.blk hb1 (by omega)) (hu.blk hb2 (by omega)) (by omega) (by omega)).mono ?_
    rintro e u' w5 ⟨rfl, rfl, k0, k1, k2, hu5⟩
    have Hu5 := Lib.hid hu5; clear hu5
    have e0 := block_cell (j := 0) k0 rfl
    have e1 := block_cell (j := 1) k0 rfl
    have e2 := block_cell (j := 2) k0 rfl
    have e3 := block_cell (j := 3) k0 rfl
    have e4 := block_cell (j := 0) k1 rfl
    have e5 := block_cell (j := 0) k2 rfl
    simp [Leaves, settle, results, Try.results56, go_sem, *]
    unfold ToldIs
    refine ⟨.inr ⟨hno, rfl⟩, ?_⟩
    have h4 := hu.below (B := w.heap.size) (by omega) (fun b hb => by omega)
    have h5 := Hu5.out.below (B := w.heap.size) (by have := h4.size; omega) (fun b hb => by omega)
    exact (hbw.trans h4).trans h5
end Go.Proofs.Ytcppgkhkijejoaa
