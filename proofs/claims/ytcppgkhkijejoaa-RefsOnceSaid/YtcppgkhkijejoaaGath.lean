/- Memory: objects gathered by append in a row of the call's own. No program here. -/
import Derived.Test.YtcppgkhkijejoaaLinks
import Derived.Test.YtcppgkhkijejoaaDec
namespace Go.Proofs.Ytcppgkhkijejoaa
open Go.RowKit
set_option linter.unusedVariables false
set_option linter.unusedSimpArgs false

theorem own_below {w w' : World} {base : Nat} {e : TypeId} {size : Nat} {v : Value} {n : Nat} {xs : List Value} (h : w.ownsRow base e size v n xs) (hb : Below w.heap.size w w') : w'.ownsRow base e size v n xs := by
  refine ⟨h.1, ?_⟩
  rcases h.2 with h2 | ⟨g, cap, cur, rfl, hg, hh, r⟩
  · exact .inl h2
  · exact .inr ⟨g, cap, cur, rfl, hg, (hb.block _ (lt_of_block hh)).trans hh, r⟩

/-- objects in a row of the call's own; the links lie elsewhere -/
def Gath (B : Nat) (w : World) (v : Value) (l : List Obj) : Prop :=
  ∃ (S : Nat → Prop) (lvs : Nat → Value), (∀ b, S b → b < w.heap.size ∧ v.ownBlock ≠ some b) ∧ w.ownsRow B 24 4 v l.length (flat (fun i => objCells (obj l i) (lvs i)) l.length) ∧
    ∀ i, i < l.length → ObjIs S w (obj l i) (lvs i)

theorem Gath.nil (B : Nat) (w : World) : Gath B w (.slice none 0 0) [] :=
  ⟨fun _ => False, fun _ => .nilFunc, fun _ h => h.elim, World.ownsRow_nil _ _ _ _, fun i hi => by simp at hi⟩
theorem Gath.below {B : Nat} {w w' : World} {v : Value} {l : List Obj} (h : Gath B w v l) (hb : Below w.heap.size w w') : Gath B w' v l := by
  obtain ⟨S, lvs, h1, h2, h3⟩ := h
  exact ⟨S, lvs, fun b hS => ⟨Nat.lt_of_lt_of_le (h1 b hS).1 hb.size, (h1 b hS).2⟩, own_below h2 hb, fun i hi => (h3 i hi).below hb⟩
theorem Gath.shape {B : Nat} {w : World} {v : Value} {l : List Obj} (h : Gath B w v l) : ∃ a c, v = .slice a l.length c := by
  obtain ⟨S, lvs, h1, h2, h3⟩ := h
  rcases h2.2 with ⟨rfl, hn⟩ | ⟨g, cap, cur, rfl, _⟩
  · exact ⟨none, 0, by rw [hn]⟩
  · exact ⟨_, _, rfl⟩
theorem Gath.store {B : Nat} {w : World} {v : Value} {l : List Obj} (h : Gath B w v l) (hl : l.length * 56 ≤ 140737488351232) : StoreV (fun _ => True) w v l := by
  obtain ⟨S, lvs, h1, h2, h3⟩ := h
  refine ⟨lvs, own_sl h2 (fun _ _ => trivial) hl (fun i hi j u hu => ?_), fun i hi => (h3 i hi).weaken fun _ _ => trivial⟩
  exact flat_get (cs := fun i => objCells (obj l i) (lvs i)) (fun _ _ => rfl) i hi j u hu
theorem Gath.own {B : Nat} {w : World} {v : Value} {l : List Obj} (h : Gath B w v l) : ∃ xs, w.ownsRow B 24 4 v l.length xs := let ⟨_, _, _, h2, _⟩ := h; ⟨_, h2⟩
theorem Gath.block {B : Nat} {w : World} {v : Value} {l : List Obj} (h : Gath B w v l) {g : Nat} (hg : v.ownBlock = some g) : B ≤ g ∧ g < w.heap.size := by
  obtain ⟨xs, hx⟩ := h.own
  exact hx.lt g hg

theorem obj_snoc_lt {l : List Obj} {o : Obj} {i : Nat} (h : i < l.length) : obj (l ++ [o]) i = obj l i := by
  unfold obj at_; simp only [List.getD_eq_getElem?_getD, List.getElem?_append_left h]
theorem obj_snoc_eq {l : List Obj} {o : Obj} : obj (l ++ [o]) l.length = o := by
  unfold obj at_; simp

/-- one object is appended -/
theorem Gath.push {B : Nat} {w w1 : World} {v v' : Value} {l : List Obj} {o : Obj} {lv : Value} {S2 : Nat → Prop} {ob : Go.Obj} {S : Nat → Prop} {lvs : Nat → Value}
    (h1 : ∀ b, S b → b < w.heap.size ∧ v.ownBlock ≠ some b) (h3 : ∀ i, i < l.length → ObjIs S w (obj l i) (lvs i)) (hv : ∀ g, v.ownBlock = some g → g < w.heap.size)
    (ho : ObjIs S2 w o lv) (h2 : ∀ b, S2 b → b < w.heap.size ∧ v.ownBlock ≠ some b)
    (hown : w1.ownsRow B 24 4 v' (l.length + 1) (flat (fun i => objCells (obj l i) (lvs i)) l.length ++ objCells o lv)) (hgrow : (w.alloc ob).grownBy w1 v.ownBlock)
    (hat : v'.ownBlock = v.ownBlock ∨ v'.ownBlock = some (w.heap.size + 1)) : Gath B w1 v' (l ++ [o]) := by
  have hu : Upd (fun b => v.ownBlock = some b) w w1 := Upd.grown ((Upd.refl _ _).alloc ob) hgrow (fun k hk _ => hk)
  refine ⟨fun b => S b ∨ S2 b, fun i => if i < l.length then lvs i else lv, fun b hb => ?_, ?_, fun i hi => ?_⟩
  · have hb' : b < w.heap.size ∧ v.ownBlock ≠ some b := by rcases hb with hb | hb; exact h1 b hb; exact h2 b hb
    refine ⟨Nat.lt_of_lt_of_le hb'.1 hu.size, ?_⟩
    rcases hat with h | h
    · rw [h]; exact hb'.2
    · rw [h]; intro e; cases e; omega
  · rw [List.length_append, List.length_singleton, flat]
    have e1 : flat (fun i => objCells (obj (l ++ [o]) i) (if i < l.length then lvs i else lv)) l.length = flat (fun i => objCells (obj l i) (lvs i)) l.length :=
      flat_congr fun i hi => by rw [obj_snoc_lt hi, if_pos hi]
    rw [e1, obj_snoc_eq]
    simp only [Nat.lt_irrefl, if_false]
    exact hown
  · rw [List.length_append, List.length_singleton] at hi
    by_cases hl : i < l.length
    · simp only [obj_snoc_lt hl, if_pos hl]
      exact ((h3 i hl).upd hu (fun b hb h => (h1 b hb).2 h)).weaken fun _ h => .inl h
    · have : i = l.length := by omega
      subst this
      simp only [obj_snoc_eq, if_neg hl]
      exact (ho.upd hu (fun b hb h => (h2 b hb).2 h)).weaken fun _ h => .inr h

theorem Try.infoObj : (Try.prog.info? 24).map (fun i => (i.zero, i.size, i.bytes)) = some (some (.agg #[.int .i64 0, .int .i64 0, .slice none 0 0, .string ⟨#[]⟩]), 4, 56) := by kernel_rfl

/-- the law: 'append(out, o)' of one object -/
theorem wpList_append_obj {ops : Array Oper} {rest : List Oper} {o : Oper} {a : Act} {w : World} {Q : Exit → Act → World → Prop} (hgd : o.guard = none) (s x : Operand)
    (ho : o.op = .call { callee := .builtin .append, args := #[s, x], argTypes := #[37, 37] }) {B : Nat} {v : Value} {l : List Obj} {p : Obj} {lv : Value} {S2 : Nat → Prop}
    (hG : Gath B w v l) (hp : ObjIs S2 w p lv) (hlv : lv.oneCell' = true) (h2 : ∀ b, S2 b → b < w.heap.size ∧ v.ownBlock ≠ some b) (hl : (l.length + 1) * 56 ≤ 140737488351232) (hB : B ≤ w.heap.size)
    (hs : a.eval s = v) {N : Nat} (hx : a.eval x = .slice (some ⟨N, 0, none⟩) 1 1) (hN : N = w.heap.size)
    (h : ∀ v' w', Gath B w' v' (l ++ [p]) → Upd (fun b => v.ownBlock = some b) w w' → wpList Try.prog ops Q rest (a.put o.dst v') w') :
    wpList Try.prog ops Q (o :: rest) a (w.alloc (.cells #[.int .i64 p.id, .int .i64 p.kind, lv, .string p.text] 24)) := by
  subst hN
  obtain ⟨S, lvs, h1, hown, h3⟩ := hG
  obtain ⟨i0, hi, hz0, hz1, hz2⟩ := info_parts Try.infoObj
  refine wpList_append_own_at _ hgd s x 37 ho B 24 i0 _ 4 56 Try.underlying37 hi hz0 hz1 hz2 rfl (by decide) v l.length _ hs (hown.alloc _) ⟨w.heap.size, 0, none⟩ 1 1 (objCells p lv) hx rfl
    (World.news_of_block (cs := #[.int .i64 p.id, .int .i64 p.kind, lv, .string p.text]) (t := 24) (fr := (0, 0)) (heap_alloc_new w _)) ?_ ?_ (by omega) (by simp; omega) ?_
  · intro u hu
    simp only [objCells, List.mem_cons, List.not_mem_nil, or_false] at hu
    rcases hu with rfl | rfl | rfl | rfl
    · rfl
    · rfl
    · exact hlv
    · rfl
  · unfold maxLen; omega
  · intro v' w' hown' hgrow _ hat
    exact h v' w' (Gath.push h1 h3 (fun g hg => (hown.lt g hg).2) hp h2 hown' hgrow (by simpa using hat)) (Upd.grown ((Upd.refl _ _).alloc _) hgrow (fun k hk _ => hk))

/-- the law: 'append(out, z)' of one number -/
theorem wpList_append_int {ops : Array Oper} {rest : List Oper} {o : Oper} {a : Act} {w : World} {Q : Exit → Act → World → Prop} (hgd : o.guard = none) (s x : Operand)
    (ho : o.op = .call { callee := .builtin .append, args := #[s, x], argTypes := #[22, 22] }) {B n : Nat} {v : Value} {xs : List Value} {z : Int}
    (hG : w.ownsRow B 3 1 v n xs) (hl : (n + 1) * 8 ≤ 140737488351232) (hB : B ≤ w.heap.size)
    (hs : a.eval s = v) {N : Nat} (hx : a.eval x = .slice (some ⟨N, 0, none⟩) 1 1) (hN : N = w.heap.size)
    (h : ∀ v' w', w'.ownsRow B 3 1 v' (n + 1) (xs ++ [.int .i64 z]) → Upd (fun b => v.ownBlock = some b) w w' → wpList Try.prog ops Q rest (a.put o.dst v') w') :
    wpList Try.prog ops Q (o :: rest) a (w.alloc (.cells #[.int .i64 z] 3)) := by
  subst hN
  obtain ⟨i0, hi, hz0, hz1, hz2⟩ := info_parts Try.infoInt
  refine wpList_append_own_at _ hgd s x 22 ho B 3 i0 _ 1 8 Try.underlying22 hi hz0 hz1 hz2 rfl (by decide) v n _ hs (hG.alloc _) ⟨w.heap.size, 0, none⟩ 1 1 [.int .i64 z] hx rfl
    (World.news_of_block (cs := #[.int .i64 z]) (t := 3) (fr := (0, 0)) (heap_alloc_new w _)) ?_ ?_ (by omega) (by simp; omega) ?_
  · intro u hu
    simp only [List.mem_cons, List.not_mem_nil, or_false] at hu
    subst hu; rfl
  · unfold maxLen; omega
  · intro v' w' hown' hgrow _ hat
    exact h v' w' hown' (Upd.grown ((Upd.refl _ _).alloc _) hgrow (fun k hk _ => hk))

end Go.Proofs.Ytcppgkhkijejoaa
