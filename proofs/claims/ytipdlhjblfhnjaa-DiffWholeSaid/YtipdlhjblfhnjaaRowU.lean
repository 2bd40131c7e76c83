
/- RowU: updates in a row of the call's own: append; sorted by slices.SortFunc. -/
import Derived.Test.YtipdlhjblfhnjaaCmp
import Derived.Test.YtipdlhjblfhnjaaInsA
import Derived.Shelf.SlSortCmp.WholeK
import Derived.Deep.AppendLies
namespace Go.Proofs.Ytipdlhjblfhnjaa
open Go.RowKit
set_option linter.unusedVariables false
set_option linter.unusedSimpArgs false

theorem Try.infoUpd : (Try.prog.info? 67).map (fun i => (i.zero, i.size, i.bytes)) = some (some (.agg #[.string ⟨#[]⟩, .int .i64 0, .int .i64 0]), 3, 32) := by kernel_rfl
def MvOk (u : Mv) : Prop := I64 u.old ∧ I64 u.new ∧ u.name.size ≤ 140737488351232
/-- updates in a row of the call's own -/
def OwnU (B : Nat) (w : World) (v : Value) (l : List Mv) : Prop :=
  w.ownsRow B 67 3 v l.length (flat (fun i => mvCells (mv l i)) l.length) ∧ ∀ r ∈ l, MvOk r

theorem OwnU.nil (B : Nat) (w : World) : OwnU B w (.slice none 0 0) [] := ⟨World.ownsRow_nil _ _ _ _, fun r h => by cases h⟩
theorem OwnU.below {B : Nat} {w w' : World} {v : Value} {l : List Mv} (h : OwnU B w v l) (hb : Below w.heap.size w w') : OwnU B w' v l := ⟨own_below h.1 hb, h.2⟩
theorem OwnU.shape {B : Nat} {w : World} {v : Value} {l : List Mv} (h : OwnU B w v l) : ∃ a c, v = .slice a l.length c := own_shape h.1
theorem OwnU.block {B : Nat} {w : World} {v : Value} {l : List Mv} (h : OwnU B w v l) {g : Nat} (hg : v.ownBlock = some g) : B ≤ g ∧ g < w.heap.size := h.1.lt g hg
theorem OwnU.mvs {B : Nat} {w : World} {v : Value} {l : List Mv} (h : OwnU B w v l) (hl : l.length * 32 ≤ 140737488351232) : MvsV (fun b => B ≤ b ∧ v.ownBlock = some b) w v l :=
  ⟨own_sl h.1 (fun g hg => ⟨(h.block hg).1, hg⟩) hl (fun i hi j u hu => flat_get (cs := fun i => mvCells (mv l i)) (fun _ _ => rfl) i hi j u hu), h.2⟩

theorem mv_snoc_lt {l : List Mv} {o : Mv} {i : Nat} (h : i < l.length) : mv (l ++ [o]) i = mv l i := by
  unfold mv at_; simp only [List.getD_eq_getElem?_getD, List.getElem?_append_left h]
theorem mv_snoc_eq {l : List Mv} {o : Mv} : mv (l ++ [o]) l.length = o := by
  unfold mv at_; simp
theorem one_mv (r : Mv) : ∀ u ∈ mvCells r, u.oneCell' = true := by
  intro u hu
  simp only [mvCells, List.mem_cons, List.not_mem_nil, or_false] at hu
  rcases hu with rfl | rfl | rfl <;> rfl
theorem flat_snoc_mv (l : List Mv) (p : Mv) : flat (fun i => mvCells (mv (l ++ [p]) i)) (l ++ [p]).length = flat (fun i => mvCells (mv l i)) l.length ++ mvCells p := by
  rw [List.length_append, List.length_singleton, flat, flat_congr (fun i hi => by rw [mv_snoc_lt hi]), mv_snoc_eq]

/-- the law: 'append(out, u)' of one update -/
theorem wpList_append_mv {ops : Array Oper} {rest : List Oper} {o : Oper} {a : Act} {w : World} {Q : Exit → Act → World → Prop} (hgd : o.guard = none) (s x : Operand)
    (ho : o.op = .call { callee := .builtin .append, args := #[s, x], argTypes := #[27, 27] }) {B : Nat} {v : Value} {l : List Mv} {p : Mv}
    (hG : OwnU B w v l) (hp : MvOk p) (hl : (l.length + 1) * 32 ≤ 140737488351232) (hB : B ≤ w.heap.size)
    (hs : a.eval s = v) {N : Nat} (hx : a.eval x = .slice (some ⟨N, 0, none⟩) 1 1) (hN : N = w.heap.size)
    (h : ∀ v' w', OwnU B w' v' (l ++ [p]) → Upd (fun b => v.ownBlock = some b) w w' → wpList Try.prog ops Q rest (a.put o.dst v') w') :
    wpList Try.prog ops Q (o :: rest) a (w.alloc (.cells #[.string p.name, .int .i64 p.old, .int .i64 p.new] 67)) := by
  subst hN
  obtain ⟨i0, hi, hz0, hz1, hz2⟩ := info_parts Try.infoUpd
  refine wpList_append_own_at _ hgd s x 27 ho B 67 i0 _ 3 32 Try.underlying27 hi hz0 hz1 hz2 rfl (by decide) v l.length _ hs (hG.1.alloc _) ⟨w.heap.size, 0, none⟩ 1 1 (mvCells p) hx rfl
    (World.news_of_block (cs := #[.string p.name, .int .i64 p.old, .int .i64 p.new]) (t := 67) (fr := (0, 0)) (heap_alloc_new w _)) (one_mv p) ?_ (by omega) (by simp; omega) ?_
  · unfold maxLen; omega
  · intro v' w' hown' hgrow _ hat
    refine h v' w' ⟨?_, fun r hr => ?_⟩ (Upd.grown ((Upd.refl _ _).alloc _) hgrow (fun k hk _ => hk))
    · rw [flat_snoc_mv, List.length_append, List.length_singleton]; exact hown'
    · rcases List.mem_append.1 hr with hr | hr
      · exact hG.2 r hr
      · rw [List.mem_singleton.1 hr]; exact hp

/-- the same at a step of a region that draws its order -/
theorem step_append_mv {ops : Array Oper} {o : Oper} {a : Act} {w : World} {K : Act → World → Prop} {Q : Exit → Act → World → Prop} {E : Prop} (hgd : o.guard = none) (s x : Operand)
    (ho : o.op = .call { callee := .builtin .append, args := #[s, x], argTypes := #[27, 27] }) {B : Nat} {v : Value} {l : List Mv} {p : Mv}
    (hG : OwnU B w v l) (hp : MvOk p) (hl : (l.length + 1) * 32 ≤ 140737488351232) (hB : B ≤ w.heap.size)
    (hs : a.eval s = v) {N : Nat} (hx : a.eval x = .slice (some ⟨N, 0, none⟩) 1 1) (hN : N = w.heap.size)
    (h : ∀ g c w', OwnU B w' (.slice (some ⟨g, 0, none⟩) (l.length + 1) c) (l ++ [p]) → Upd (fun b => v.ownBlock = some b) w w' → K (a.put o.dst (.slice (some ⟨g, 0, none⟩) (l.length + 1) c)) w') :
    if Region.wanted o (yielded ops a.tmps) = true then Oper.wp Try.prog o a (w.alloc (.cells #[.string p.name, .int .i64 p.old, .int .i64 p.new] 67)) K Q else E := by
  subst hN
  obtain ⟨i0, hi, hz0, hz1, hz2⟩ := info_parts Try.infoUpd
  refine step_append_lies _ hgd s x 27 ho B 67 i0 _ 3 32 Try.underlying27 hi hz0 hz1 hz2 rfl (by decide) v l.length _ hs (hG.1.alloc _) ⟨w.heap.size, 0, none⟩ 1 1 (mvCells p) hx rfl
    (World.news_of_block (cs := #[.string p.name, .int .i64 p.old, .int .i64 p.new]) (t := 67) (fr := (0, 0)) (heap_alloc_new w _)) (one_mv p) (by omega) (by unfold maxLen; omega) (by omega) (by simp; omega) _ rfl ?_
  intro g c w' hown' hgrow _ _
  refine h g c w' ⟨?_, fun r hr => ?_⟩ (Upd.grown ((Upd.refl _ _).alloc _) hgrow (fun k hk _ => hk))
  · rw [flat_snoc_mv, List.length_append, List.length_singleton]; exact hown'
  · rcases List.mem_append.1 hr with hr | hr
    · exact hG.2 r hr
    · rw [List.mem_singleton.1 hr]; exact hp

instance instInhabitedMv : Inhabited Mv := ⟨mv0⟩
theorem mv_arr {l : List Mv} {i : Nat} (h : i < l.length) : l.toArray[i]! = mv l i := by
  rw [getElem!_pos _ i (by simpa using h), mv_lt h]; simp
theorem own_holds {B g cap : Nat} {w : World} {l : List Mv} (h : OwnU B w (.slice (some ⟨g, 0, none⟩) l.length cap) l) : Go.Sort.HoldsK mvCells 3 w g 0 l.toArray := by
  intro j hj
  have hj' : j < l.length * 3 := by simpa using hj
  have hc := h.1.cellAt j (by simpa using hj')
  have hf := h.1.frozenAt (g := g) j
  refine ⟨?_, by simpa using hf⟩
  have e := flat_get (cs := fun i => mvCells (mv l i)) (sz := 3) (n := l.length) (fun _ _ => rfl) (j / 3) (by omega) (j % 3) ((mvCells (mv l (j / 3)))[j % 3]'(by show j % 3 < 3; omega)) (List.getElem?_eq_getElem _)
  rw [show j / 3 * 3 + j % 3 = j by omega] at e
  rw [Nat.zero_add, hc, e, Go.Sort.get_flatK _ _ _ _ (by simpa using hj'), mv_arr (by omega)]
  rw [getElem!_pos (mvCells (mv l (j / 3))) (j % 3) (by show j % 3 < 3; omega)]
  rfl
theorem sort_upd (w : World) (g m : Nat) (d : Array Mv) (os : Array Go.Obj) : Upd (fun b => b = g) w (Go.Proofs.sortWorldK mvCells 3 w g 0 m d os) := by
  refine ⟨rfl, rfl, rfl, by simp [Go.Proofs.sortWorldK, Go.Sort.putRowK, Go.Sort.ahead], fun b hb hn => ?_⟩
  show ((Go.Sort.putRowK mvCells 3 (Go.Sort.ahead w m) g 0 d).heap ++ os)[b]? = _
  rw [Array.getElem?_append_left (by simpa [Go.Sort.putRowK] using hb)]
  show (w.heap.modify g _)[b]? = _
  rw [Array.getElem?_modify, if_neg (fun e => hn e.symm)]
theorem own_sorted {B g cap m : Nat} {w : World} {l : List Mv} {d : Array Mv} {os : Array Go.Obj} (h : OwnU B w (.slice (some ⟨g, 0, none⟩) l.length cap) l) (hl : l.length * 32 ≤ 140737488351232) (hd : d.size = l.length) (hok : ∀ u ∈ d.toList, MvOk u) :
    MvsV (fun b => B ≤ b) (Go.Proofs.sortWorldK mvCells 3 w g 0 m d os) (.slice (some ⟨g, 0, none⟩) l.length cap) d.toList := by
  have hb := h.block (g := g) rfl
  have hH := Go.Proofs.holdsK_sortWorldK_c mvCells 3 w g 0 l.toArray d m os (own_holds h) hb.2 (by simpa using hd)
  have hlen : d.toList.length = l.length := by simpa using hd
  obtain ⟨⟨a, c, e, g1, g2, g3, _⟩, _⟩ := h.mvs hl
  cases e
  refine ⟨⟨_, _, by rw [hlen], by rw [hlen]; exact g1, g2, by rw [hlen]; exact g3, fun hn => ⟨g, 0, rfl, hb.1, fun i hi j u hu => ?_⟩⟩, hok⟩
  have hj : j < 3 := by
    rcases Nat.lt_or_ge j 3 with h | h
    · exact h
    · rw [List.getElem?_eq_none (by exact h)] at hu; cases hu
  rw [(hH.cell (i := i) (c := j) (by omega) hj).1]
  have e : d[i]! = mv d.toList i := by rw [getElem!_pos d i (by omega), mv_lt hi]; simp
  rw [e, getElem!_pos _ j (by exact hj)]
  rw [List.getElem?_eq_getElem (by exact hj)] at hu
  exact hu
/-- what the sort gives, as lists -/
theorem sort_lists {l : List Mv} {d : Array Mv} (hp : Go.Sort.PermIn 0 l.toArray.size l.toArray d) (hs : Go.Sort.SortedIn (Go.Proofs.ltOf fun a b : Mv => cmpS a.name b.name) 0 l.toArray.size d) :
    d.size = l.length ∧ d.toList.Perm l ∧ d.toList.Pairwise fun a b => strLt b.name a.name = false := by
  have h1 : d.size = l.length := by simpa using hp.1
  refine ⟨h1, ?_, ?_⟩
  · have h2 := hp.2.2
    have e1 : d.extract 0 l.toArray.size = d := by rw [show l.toArray.size = d.size by simpa using h1.symm]; simp
    rw [e1] at h2
    simpa using h2
  · rw [List.pairwise_iff_getElem]
    intro i j hi hj hij
    have := hs i j (Nat.zero_le _) hij (by simpa [h1] using hj)
    rw [getElem!_pos d j (by simpa using hj), getElem!_pos d i (by simpa using hi)] at this
    unfold Go.Proofs.ltOf at this
    cases e : strLt d.toList[j].name d.toList[i].name
    · rfl
    · have h3 := (cmpS_lt _ _).2 e
      simp only [Array.getElem_toList] at h3
      rw [decide_eq_true h3] at this; cases this
theorem swoN : Go.Sort.SWO (Go.Proofs.ltOf fun a b : Mv => cmpS a.name b.name) := by
  have e : ∀ x y : Mv, Go.Proofs.ltOf (fun a b : Mv => cmpS a.name b.name) x y = strLt x.name y.name := fun x y => by
    unfold Go.Proofs.ltOf
    cases h : strLt x.name y.name
    · exact decide_eq_false fun h2 => by rw [(cmpS_lt _ _).1 h2] at h; cases h
    · exact decide_eq_true ((cmpS_lt _ _).2 h)
  refine ⟨fun x => ?_, fun x y z h1 h2 => ?_, fun x y z h1 h2 => ?_⟩
  · rw [e]; exact strLt_irrefl _
  · rw [e] at *; exact less_trans _ _ _ h1 h2
  · rw [e] at *; exact strLt_ntrans h1 h2
end Go.Proofs.Ytipdlhjblfhnjaa
