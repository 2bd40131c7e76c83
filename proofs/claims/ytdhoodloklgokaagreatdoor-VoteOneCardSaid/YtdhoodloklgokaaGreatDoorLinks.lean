
/- Walks: the law ObjectLinks. -/
import Derived.Test.YtdhoodloklgokaaGreatDoorObjB
import Derived.Deep.Upon
namespace Go.Proofs.YtdhoodloklgokaaGreatDoor
open Go.RowKit
set_option linter.unusedVariables false
set_option linter.unusedSimpArgs false

/-- box4, and a store to what is newer than the box -/
theorem cls_box4s (w : World) (v0 v1 v2 v3 : Value) (t : TypeId) : ∃ R : World → Prop, Cls w R ∧ In R (w.alloc (.cells #[v0, v1, v2, v3] t)) ∧
    (∀ x, In R x → x.cell? ⟨w.heap.size, 0, none⟩ = some v0) ∧ (∀ x, In R x → x.cell? ⟨w.heap.size, 1, none⟩ = some v1) ∧
    (∀ x, In R x → x.cell? ⟨w.heap.size, 2, none⟩ = some v2) ∧ (∀ x, In R x → x.cell? ⟨w.heap.size, 3, none⟩ = some v3) ∧
    (∀ x a v, In R x → w.heap.size + 1 ≤ a.block → In R (x.setCell a v)) ∧ (∀ x, In R x → w.heap.size + 1 ≤ x.heap.size) ∧
    (∀ x y row, In R x → x.grownBy y row → (∀ k, row = some k → w.heap.size + 1 ≤ k) → In R y) := by
  have hb := fun (j : Nat) (v : Value) (hv : (#[v0, v1, v2, v3] : Array Value)[j]? = some v) (x : World) (hx : In (fun x => Below (w.heap.size + 1) (w.alloc (.cells #[v0, v1, v2, v3] t)) x) x) => by
    have h1 : x.cell? ⟨w.heap.size, j, none⟩ = some v := by
      rw [Below.cell hx (p := ⟨w.heap.size, j, none⟩) (by simp)]
      rw [World.cell?_alloc_at _ _ _ _ rfl]; exact hv
    exact h1
  exact ⟨_, cls_of w (w.alloc (.cells #[v0, v1, v2, v3] t)) (w.heap.size + 1) (by omega) (by simp) ((Below.refl _ _).alloc (Nat.le_refl _) _), Below.refl _ _, hb 0 v0 rfl, hb 1 v1 rfl, hb 2 v2 rfl, hb 3 v3 rfl,
    fun x a v h ha => Below.setCell h ha v, fun x h => by have := Below.size h; simpa using this,
    fun x y row h hg hr => Below.grown h hg (by have := Below.size h; simpa using this) hr⟩

def moreO (o : Obj) : Obj := ⟨o.id, o.kind, o.links ++ [o.id], o.text⟩
def lessO (o : Obj) : Obj := ⟨o.id, o.kind, o.links.take (o.links.length - 1), o.text⟩

theorem linkBad_front {o p : Obj} {k n : Nat} (hid : p.id = o.id) (hk : p.kind = o.kind) (hn : ∀ i, i < n → nth p.links i = nth o.links i) (h : k < n) : linkBad p k = linkBad o k := by
  unfold linkBad; rw [hid, hk, hn k h, hn (k - 1) (by omega)]

theorem more_bad {o : Obj} (h : checkObj o = 0) : (checkObj (moreO o) == 0) = false := by
  obtain ⟨h1, h2, h3, h4, h5⟩ := checkObj_ok h
  have hs : scan (linkBad o) o.links.length = 0 := by
    unfold linksErr at h5
    by_cases h0 : scan (linkBad o) o.links.length = 0
    · exact h0
    · rw [if_pos h0] at h5; exact absurd h5 h0
  have hw1 : within o.id 1 99 = true := by simp [within]; omega
  have hw2 : within o.kind 1 3 = true := by simp [within]; omega
  have hfr : ∀ i, i < o.links.length → nth (moreO o).links i = nth o.links i := fun i hi => by
    unfold nth at_ moreO; simp [List.getD_eq_getElem?_getD, List.getElem?_append_left hi]
  have hlast : nth (moreO o).links o.links.length = o.id := by unfold nth at_ moreO; simp
  have hl : linksErr (moreO o) = 3 := by
    refine linksErr_bad (k := o.links.length) ?_ (linkBad_range ?_) (by decide) (by simp [moreO])
    · rw [scan_congr (g := linkBad o) (fun k hk => linkBad_front (o := o) (p := moreO o) rfl rfl hfr hk)]; exact hs
    · rw [hlast]; show within o.id 1 (o.id - 1) = false; simp [within]; omega
  unfold checkObj
  simp only [show (moreO o).id = o.id from rfl, show (moreO o).kind = o.kind from rfl, hw1, hw2, hl]
  rw [if_neg (by simp), if_neg (by simp)]
  by_cases h6 : 4 < (moreO o).links.length ∨ 8 < (moreO o).text.size
  · rw [if_pos h6]; decide
  · rw [if_neg h6]; decide

theorem less_law {o : Obj} (h : checkObj o = 0) (hn : 0 < o.links.length) : (o.kind = 2 ∨ o.kind = 3) ∧ ((checkObj (lessO o) == 0) = (decide (1 < o.links.length) || decide (o.kind = 2))) := by
  obtain ⟨h1, h2, h3, h4, h5⟩ := checkObj_ok h
  have hs : scan (linkBad o) o.links.length = 0 := by
    unfold linksErr at h5
    by_cases h0 : scan (linkBad o) o.links.length = 0
    · exact h0
    · rw [if_pos h0] at h5; exact absurd h5 h0
  have hf : formBad o = false := by
    unfold linksErr at h5
    rw [hs, if_neg (by simp)] at h5
    cases hf : formBad o
    · rfl
    · rw [hf, if_pos rfl] at h5; exact absurd h5 (by decide)
  have hk : o.kind = 2 ∨ o.kind = 3 := by
    have hne : o.kind ≠ 1 := fun e => by simp [formBad, e, hn] at hf
    omega
  have hw1 : within o.id 1 99 = true := by simp [within]; omega
  have hw2 : within o.kind 1 3 = true := by simp [within]; omega
  have hll : (lessO o).links.length = o.links.length - 1 := by simp [lessO]
  have hfr : ∀ i, i < o.links.length - 1 → nth (lessO o).links i = nth o.links i := fun i hi => by
    unfold nth at_ lessO; simp only [List.getD_eq_getElem?_getD, List.getElem?_take, hi, if_true]
  have hs' : scan (linkBad (lessO o)) (lessO o).links.length = 0 := by
    rw [hll, scan_congr (g := linkBad o) (fun k hk => linkBad_front (o := o) (p := lessO o) rfl rfl hfr hk)]
    exact scan_of_zero fun k hk => scan_zero hs k (by omega)
  have hc : checkObj (lessO o) = linksErr (lessO o) := by
    unfold checkObj
    simp only [show (lessO o).id = o.id from rfl, show (lessO o).kind = o.kind from rfl, show (lessO o).text = o.text from rfl, hw1, hw2, hll]
    rw [if_neg (by simp), if_neg (by simp), if_neg (by omega)]
  refine ⟨hk, ?_⟩
  rw [hc]
  by_cases hg : 1 < o.links.length
  · rw [linksErr_ok hs' (by unfold formBad; rw [hll]; show (decide (o.kind = 1) && _ || decide (o.kind = 3) && _) = false; rcases hk with hk | hk <;> simp [hk] <;> omega)]
    simp [hg]
  · rcases hk with hk | hk
    · rw [linksErr_ok hs' (by unfold formBad; rw [hll]; show (decide (o.kind = 1) && _ || decide (o.kind = 3) && _) = false; simp [hk])]
      simp [hk]
    · rw [linksErr_form hs' (by unfold formBad; rw [hll]; show (decide (o.kind = 1) && _ || decide (o.kind = 3) && _) = true; simp [hk]; omega)]
      simp [hk, hg]

/-- append of a []int to one of the call's own -/
theorem append_ints {x : World} {B m : Nat} {xs ys : List Int} {g c : Nat} {lv : Value} {S : Nat → Prop} (ty : TypeId) (N : Nat) (hN : N = m + ys.length) (hown : x.ownsRow B 3 1 (.slice (some ⟨g, 0, none⟩) m c) m (xs.map (Value.int .i64)))
    (hy : IntsV S x lv ys) (hm : N ≤ 1000) (hB : B ≤ x.heap.size) :
    ∃ g' c' x', (Builtin.append_ #[44, 44] ty #[.slice (some ⟨g, 0, none⟩) m c, lv]).run Tryz.prog x = .ok (.slice (some ⟨g', 0, none⟩) N c') x' ∧
      x'.ownsRow B 3 1 (.slice (some ⟨g', 0, none⟩) N c') N ((xs ++ ys).map (Value.int .i64)) ∧ x.grownBy x' (some g) := by
  subst hN
  obtain ⟨i0, hi, hz0, hz1, hz2⟩ := info_parts Tryz.infoInt
  obtain ⟨a, n, cap, HN, rfl, h1, h2, h3, h4⟩ := hy.open
  have hn : n = ys.length := HN.out
  subst hn
  by_cases h0 : ys.length = 0
  · have hnil : ys = [] := List.length_eq_zero_iff.1 h0
    subst hnil
    refine ⟨g, c, x, ?_, by simpa using hown, ⟨rfl, rfl, rfl, Nat.le_refl _, fun _ _ _ => rfl⟩⟩
    have hle : m ≤ c := by
      rcases hown.2 with ⟨e, _⟩ | ⟨g2, cap2, cur, e, _, _, hh, _⟩
      · cases e
      · simp at e; omega
    exact run_append_nothing x 44 44 ty 3 i0 Tryz.underlying44 hi (some ⟨g, 0, none⟩) m c hle _
      ⟨.inl ⟨_, Tryz.underlying44⟩, fun w' => by simp [Builtin.lenOf], by cases a <;> simp [Builtin.firstCells] <;> rfl, by cases a <;> simp [Builtin.firstCells] <;> rfl, by simp, by simp⟩
  · obtain ⟨b, off, rfl, _, hc⟩ := h4 (by omega)
    obtain ⟨g', c', x', hr, ho, hg, _, _⟩ := run_append_lies (P := Tryz.prog) x 44 ty B 3 i0 _ 1 8 Tryz.underlying44 hi hz0 hz1 hz2 rfl (by omega) _ m _ hown ⟨b, off, none⟩ ys.length cap (ys.map (Value.int .i64)) (by simp)
      (fun j u hu => by
        rw [List.getElem?_map] at hu
        by_cases hj : j < ys.length
        · rw [List.getElem?_eq_getElem hj] at hu
          simp at hu; subst hu
          have := hc j x hj (Below.refl _ _)
          rw [nth_lt hj] at this
          rw [show (⟨b, off, none⟩ : Addr).add j = ⟨b, off + j, none⟩ by unfold Addr.add; split <;> simp_all]
          exact this
        · rw [List.getElem?_eq_none (by omega)] at hu; cases hu)
      (by intro u hu; obtain ⟨k, _, rfl⟩ := List.mem_map.1 hu; rfl) (by omega) (by unfold maxLen; omega) (by omega) hB x.heap.size rfl
    exact ⟨g', c', x', hr, by simpa using ho, hg⟩

theorem wp_append_run {P : Program} {o : Oper} {a : Act} {w w' : World} {K : Act → World → Prop} {Q : Exit → Act → World → Prop} (s x : Operand) (t : TypeId)
    (ho : o.op = .call { callee := .builtin .append, args := #[s, x], argTypes := #[t, t] }) (v u r : Value) (hs : a.eval s = v) (hx : a.eval x = u)
    (hr : (Builtin.append_ #[t, t] o.type #[v, u]).run P w = .ok r w') (h : K (a.put o.dst r) w') : o.wp P a w K Q := by
  unfold Oper.wp execOp
  simp only [ho, resolve, invoke, builtin, Sem.run_bind, Sem.run_pure, Result.andThen_ok, List.map_toArray, List.map_cons, List.map_nil, hs, hx, hr]
  exact h

theorem own_empty (x : World) (t : TypeId) (B : Nat) (hB : B ≤ x.heap.size) : (x.alloc (.cells #[] t)).ownsRow B t 1 (.slice (some ⟨x.heap.size, 0, none⟩) 0 0) 0 (([] : List Int).map (Value.int .i64)) :=
  ⟨rfl, .inr ⟨x.heap.size, 0, #[], rfl, hB, heap_alloc_new x _, Nat.le_refl _, by unfold maxLen; omega, rfl, rfl⟩⟩

theorem ints_one {x : World} {g : Nat} {z : Int} {t : TypeId} (h : x.heap[g]? = some (.cells #[.int .i64 z] t (0, 0))) (hz : I64 z) : IntsV (fun _ => True) x (.slice (some ⟨g, 0, none⟩) 1 1) [z] :=
  IntsV.mk (xs := [z]) (by simp) (by omega) (by simp) trivial (fun i hi => by
    have h0 : i = 0 := by simp at hi; omega
    subst h0
    exact block_cell (j := 0) h rfl) (by intro y hy; simp only [List.mem_cons, List.not_mem_nil, or_false] at hy; subst hy; exact hz)

/-- what is known of the world, and of what has been appended so far, on every way through the law's statement -/
structure Lk (R : World → Prop) (g0 : Nat) (mc : Array Value) (t0 : TypeId) (B : Nat) (x : World) : Prop where
  cls : In R x
  more : x.heap[g0]? = some (.cells mc t0 (0, 0))
  size : B ≤ x.heap.size
section
variable {R : World → Prop} {g0 B : Nat} {mc : Array Value} {t0 : TypeId} {x y : World}
theorem Lk.alloc (h : Lk R g0 mc t0 B x) (hRa : ∀ x o, In R x → In R (x.alloc o)) (o : Go.Obj) : Lk R g0 mc t0 B (x.alloc o) :=
  ⟨hRa _ _ h.cls, (Below.heap_alloc _ _ _ (lt_of_block h.more)).trans h.more, by have := h.size; simp; omega⟩
theorem Lk.grown {N : Nat} (h : Lk R g0 mc t0 B x) (hRg : ∀ (x y : World) (row : Option Nat), In R x → x.grownBy y row → (∀ k, row = some k → N ≤ k) → In R y) {g : Nat} (hg : x.grownBy y (some g)) (hN : N ≤ g) (hB : g0 < B) (hb : B ≤ g) : Lk R g0 mc t0 B y :=
  ⟨hRg _ _ _ h.cls hg (fun k hk => by cases hk; exact hN), (hg.block g0 (lt_of_block h.more) (fun e => by cases e; omega)).trans h.more, Nat.le_trans h.size hg.size⟩
end

theorem own_ints {x : World} {B N : Nat} {v : Value} {zs : List Int} (h : x.ownsRow B 3 1 v N (zs.map (Value.int .i64))) (hN : N = zs.length) (hi : ∀ z ∈ zs, I64 z) (hb : N ≤ 1000) : IntsV (fun b => B ≤ b) x v zs := by
  subst hN
  refine ⟨own_sl h (fun g hg => (h.lt g hg).1) (by omega) (fun i hn j u hu => ?_), hi⟩
  match j, hu with
  | 0, hu =>
    simp at hu; subst hu
    simp [nth_lt hn, hn]

theorem ints_take {S : Nat → Prop} {w : World} {a : Option Addr} {n cap : Nat} {xs : List Int} (h : IntsV S w (.slice a n cap) xs) (hn : n = xs.length) : IntsV S w (.slice a (n - 1) cap) (xs.take (xs.length - 1)) := by
  obtain ⟨⟨a', cap', hv, h1, h2, h3, h4⟩, h5⟩ := h
  cases hv
  have hl : (xs.take (xs.length - 1)).length = xs.length - 1 := by simp
  refine ⟨⟨a, cap, by rw [hl], by omega, h2, by omega, fun hp => ?_⟩, fun x hx => h5 x (List.mem_of_mem_take hx)⟩
  rw [hl] at hp
  obtain ⟨b, off, ha, hS, hc⟩ := h4 (by omega)
  refine ⟨b, off, ha, hS, fun i hi j u hu => hc i (by omega) j u ?_⟩
  have hx : nth (xs.take (xs.length - 1)) i = nth xs i := by
    unfold nth at_; simp only [List.getD_eq_getElem?_getD, List.getElem?_take, show i < xs.length - 1 by omega, if_true]
  have hu' : [Value.int .i64 (nth (xs.take (xs.length - 1)) i)][j]? = some u := hu
  rw [hx] at hu'; exact hu'

theorem zero_law {o : Obj} (h : checkObj o = 0) (hn : o.links.length = 0) : (o.kind == 3) = false := by
  obtain ⟨h1, h2, h3, h4, h5⟩ := checkObj_ok h
  have hne : o.kind ≠ 3 := fun e => by
    unfold linksErr at h5
    rw [hn] at h5
    simp [scan, formBad, e, hn] at h5
  simpa using hne

end Go.Proofs.YtdhoodloklgokaaGreatDoor
