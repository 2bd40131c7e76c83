
/- RowU: updates in a row of the call's own: append. -/
import Derived.Test.YtdhoodloklgokaaGreatDoorCmp
import Derived.Test.YtdhoodloklgokaaGreatDoorInsA
import Derived.Deep.AppendLies
namespace Go.Proofs.YtdhoodloklgokaaGreatDoor
open Go.RowKit
set_option linter.unusedVariables false
set_option linter.unusedSimpArgs false

theorem Tryz.infoUpd : (Tryz.prog.info? 93).map (fun i => (i.zero, i.size, i.bytes)) = some (some (.agg #[.string ⟨#[]⟩, .int .i64 0, .int .i64 0]), 3, 32) := by kernel_rfl
def MvOk (u : Mv) : Prop := I64 u.old ∧ I64 u.new ∧ u.name.size ≤ 140737488351232
/-- updates in a row of the call's own -/
def OwnU (B : Nat) (w : World) (v : Value) (l : List Mv) : Prop :=
  w.ownsRow B 93 3 v l.length (flat (fun i => mvCells (mv l i)) l.length) ∧ ∀ r ∈ l, MvOk r

theorem OwnU.nil (B : Nat) (w : World) : OwnU B w (.slice none 0 0) [] := ⟨World.ownsRow_nil _ _ _ _, fun r h => by cases h⟩
theorem OwnU.below {B : Nat} {w w' : World} {v : Value} {l : List Mv} (h : OwnU B w v l) (hb : Below w.heap.size w w') : OwnU B w' v l := ⟨own_below h.1 hb, h.2⟩
theorem OwnU.shape {B : Nat} {w : World} {v : Value} {l : List Mv} (h : OwnU B w v l) : ∃ a c, v = .slice a l.length c := own_shape h.1
theorem OwnU.block {B : Nat} {w : World} {v : Value} {l : List Mv} (h : OwnU B w v l) {g : Nat} (hg : v.ownBlock = some g) : B ≤ g ∧ g < w.heap.size := h.1.lt g hg
theorem OwnU.mvs {B : Nat} {w : World} {v : Value} {l : List Mv} (h : OwnU B w v l) (hl : l.length * 32 ≤ 140737488351232) : MvsV (fun b => B ≤ b ∧ v.ownBlock = some b) w v l :=
  ⟨own_sl h.1 (fun g hg => ⟨(h.block hg).1, hg⟩) hl (fun i hi j u hu => flat_get (cs := fun i => mvCells (mv l i)) (fun _ _ => rfl) i hi j u hu), h.2⟩

theorem mv_snoc_lt {l : List Mv} {o : Mv} {i : Nat} (h : i < l.length) : mv (l ++ [o]) i = mv l i := by
  unfold mv at_; simp only [List.getD_eq_getElem?_getD, List.getElem?_append_left h]
theorem mv_snoc_eq {l : List Mv} {o : Mv} : mv (l ++ [o]) l.length = o := by
  unfold mv at_; simp
theorem one_mv (r : Mv) : ∀ u ∈ mvCells r, u.oneCell' = true := by
  intro u hu
  simp only [mvCells, List.mem_cons, List.not_mem_nil, or_false] at hu
  rcases hu with rfl | rfl | rfl <;> rfl
theorem flat_snoc_mv (l : List Mv) (p : Mv) : flat (fun i => mvCells (mv (l ++ [p]) i)) (l ++ [p]).length = flat (fun i => mvCells (mv l i)) l.length ++ mvCells p := by
  rw [List.length_append, List.length_singleton, flat, flat_congr (fun i hi => by rw [mv_snoc_lt hi]), mv_snoc_eq]

/-- the law: 'append(out, u)' of one update -/
theorem wpList_append_mv {ops : Array Oper} {rest : List Oper} {o : Oper} {a : Act} {w : World} {Q : Exit → Act → World → Prop} (hgd : o.guard = none) (s x : Operand)
    (ho : o.op = .call { callee := .builtin .append, args := #[s, x], argTypes := #[24, 24] }) {B : Nat} {v : Value} {l : List Mv} {p : Mv}
    (hG : OwnU B w v l) (hp : MvOk p) (hl : (l.length + 1) * 32 ≤ 140737488351232) (hB : B ≤ w.heap.size)
    (hs : a.eval s = v) {N : Nat} (hx : a.eval x = .slice (some ⟨N, 0, none⟩) 1 1) (hN : N = w.heap.size)
    (h : ∀ v' w', OwnU B w' v' (l ++ [p]) → Upd (fun b => v.ownBlock = some b) w w' → wpList Tryz.prog ops Q rest (a.put o.dst v') w') :
    wpList Tryz.prog ops Q (o :: rest) a (w.alloc (.cells #[.string p.name, .int .i64 p.old, .int .i64 p.new] 93)) := by
  subst hN
  obtain ⟨i0, hi, hz0, hz1, hz2⟩ := info_parts Tryz.infoUpd
  refine wpList_append_own_at _ hgd s x 24 ho B 93 i0 _ 3 32 Tryz.underlying24 hi hz0 hz1 hz2 rfl (by decide) v l.length _ hs (hG.1.alloc _) ⟨w.heap.size, 0, none⟩ 1 1 (mvCells p) hx rfl
    (World.news_of_block (cs := #[.string p.name, .int .i64 p.old, .int .i64 p.new]) (t := 93) (fr := (0, 0)) (heap_alloc_new w _)) (one_mv p) ?_ (by omega) (by simp; omega) ?_
  · unfold maxLen; omega
  · intro v' w' hown' hgrow _ hat
    refine h v' w' ⟨?_, fun r hr => ?_⟩ (Upd.grown ((Upd.refl _ _).alloc _) hgrow (fun k hk _ => hk))
    · rw [flat_snoc_mv, List.length_append, List.length_singleton]; exact hown'
    · rcases List.mem_append.1 hr with hr | hr
      · exact hG.2 r hr
      · rw [List.mem_singleton.1 hr]; exact hp

/-- the same at a step of a region that draws its order -/
theorem step_append_mv {ops : Array Oper} {o : Oper} {a : Act} {w : World} {K : Act → World → Prop} {Q : Exit → Act → World → Prop} {E : Prop} (hgd : o.guard = none) (s x : Operand)
    (ho : o.op = .call { callee := .builtin .append, args := #[s, x], argTypes := #[24, 24] }) {B : Nat} {v : Value} {l : List Mv} {p : Mv}
    (hG : OwnU B w v l) (hp : MvOk p) (hl : (l.length + 1) * 32 ≤ 140737488351232) (hB : B ≤ w.heap.size)
    (hs : a.eval s = v) {N : Nat} (hx : a.eval x = .slice (some ⟨N, 0, none⟩) 1 1) (hN : N = w.heap.size)
    (h : ∀ g c w', OwnU B w' (.slice (some ⟨g, 0, none⟩) (l.length + 1) c) (l ++ [p]) → Upd (fun b => v.ownBlock = some b) w w' → K (a.put o.dst (.slice (some ⟨g, 0, none⟩) (l.length + 1) c)) w') :
    if Region.wanted o (yielded ops a.tmps) = true then Oper.wp Tryz.prog o a (w.alloc (.cells #[.string p.name, .int .i64 p.old, .int .i64 p.new] 93)) K Q else E := by
  subst hN
  obtain ⟨i0, hi, hz0, hz1, hz2⟩ := info_parts Tryz.infoUpd
  refine step_append_lies _ hgd s x 24 ho B 93 i0 _ 3 32 Tryz.underlying24 hi hz0 hz1 hz2 rfl (by decide) v l.length _ hs (hG.1.alloc _) ⟨w.heap.size, 0, none⟩ 1 1 (mvCells p) hx rfl
    (World.news_of_block (cs := #[.string p.name, .int .i64 p.old, .int .i64 p.new]) (t := 93) (fr := (0, 0)) (heap_alloc_new w _)) (one_mv p) (by omega) (by unfold maxLen; omega) (by omega) (by simp; omega) _ rfl ?_
  intro g c w' hown' hgrow _ _
  refine h g c w' ⟨?_, fun r hr => ?_⟩ (Upd.grown ((Upd.refl _ _).alloc _) hgrow (fun k hk _ => hk))
  · rw [flat_snoc_mv, List.length_append, List.length_singleton]; exact hown'
  · rcases List.mem_append.1 hr with hr | hr
    · exact hG.2 r hr
    · rw [List.mem_singleton.1 hr]; exact hp
end Go.Proofs.YtdhoodloklgokaaGreatDoor
