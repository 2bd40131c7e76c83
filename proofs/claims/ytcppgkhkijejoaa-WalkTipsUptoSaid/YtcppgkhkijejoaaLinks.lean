
/- Walks: the law ObjectLinks. -/
import Derived.Test.YtcppgkhkijejoaaObjB
import Derived.Deep.Upon
namespace Go.Proofs.Ytcppgkhkijejoaa
open Go.RowKit
set_option linter.unusedVariables false
set_option linter.unusedSimpArgs false

/-- box4, and a store to what is newer than the box -/
theorem cls_box4s (w : World) (v0 v1 v2 v3 : Value) (t : TypeId) : ∃ R : World → Prop, Cls w R ∧ In R (w.alloc (.cells #[v0, v1, v2, v3] t)) ∧
    (∀ x, In R x → x.cell? ⟨w.heap.size, 0, none⟩ = some v0) ∧ (∀ x, In R x → x.cell? ⟨w.heap.size, 1, none⟩ = some v1) ∧
    (∀ x, In R x → x.cell? ⟨w.heap.size, 2, none⟩ = some v2) ∧ (∀ x, In R x → x.cell? ⟨w.heap.size, 3, none⟩ = some v3) ∧
    (∀ x a v, In R x → w.heap.size + 1 ≤ a.block → In R (x.setCell a v)) ∧ (∀ x, In R x → w.heap.size + 1 ≤ x.heap.size) ∧
    (∀ x y row, In R x → x.grownBy y row → (∀ k, row = some k → w.heap.size + 1 ≤ k) → In R y) := by
  have hb := fun (j : Nat) (v : Value) (hv : (#[v0, v1, v2, v3] : Array Value)[j]? = some v) (x : World) (hx : In (fun x => Below (w.heap.size + 1) (w.alloc (.cells #[v0, v1, v2, v3] t)) x) x) => by
    have h1 : x.cell? ⟨w.heap.size, j, none⟩ = some v := by
      rw [Below.cell hx (p := ⟨w.heap.size, j, none⟩) (by simp)]
      rw [World.cell?_alloc_at _ _ _ _ rfl]; exact hv
    exact h1
  exact ⟨_, cls_of w (w.alloc (.cells #[v0, v1, v2, v3] t)) (w.heap.size + 1) (by omega) (by simp) ((Below.refl _ _).alloc (Nat.le_refl _) _), Below.refl _ _, hb 0 v0 rfl, hb 1 v1 rfl, hb 2 v2 rfl, hb 3 v3 rfl,
    fun x a v h ha => Below.setCell h ha v, fun x h => by have := Below.size h; simpa using this,
    fun x y row h hg hr => Below.grown h hg (by have := Below.size h; simpa using this) hr⟩

def moreO (o : Obj) : Obj := ⟨o.id, o.kind, o.links ++ [o.id], o.text⟩
def lessO (o : Obj) : Obj := ⟨o.id, o.kind, o.links.take (o.links.length - 1), o.text⟩

theorem linkBad_front {o p : Obj} {k n : Nat} (hid : p.id = o.id) (hk : p.kind = o.kind) (hn : ∀ i, i < n → nth p.links i = nth o.links i) (h : k < n) : linkBad p k = linkBad o k := by
  unfold linkBad; rw [hid, hk, hn k h, hn (k - 1) (by omega)]

theorem more_bad {o : Obj} (h : checkObj o = 0) : (checkObj (moreO o) == 0) = false := by
  obtain ⟨h1, h2, h3, h4, h5⟩ := checkObj_ok h
  have hs : scan (linkBad o) o.links.length = 0 := by
    unfold linksErr at h5
    by_cases h0 : scan (linkBad o) o.links.length = 0
    · exact h0
    · rw [if_pos h0] at h5; exact absurd h5 h0
  have hw1 : within o.id 1 99 = true := by simp [within]; omega
  have hw2 : within o.kind 1 3 = true := by simp [within]; omega
  have hfr : ∀ i, i < o.links.length → nth (moreO o).links i = nth o.links i := fun i hi => by
    unfold nth at_ moreO; simp [List.getD_eq_getElem?_getD, List.getElem?_append_left hi]
  have hlast : nth (moreO o).links o.links.length = o.id := by unfold nth at_ moreO; simp
  have hl : linksErr (moreO o) = 3 := by
    refine linksErr_bad (k := o.links.length) ?_ (linkBad_range ?_) (by decide) (by simp [moreO])
    · rw [scan_congr (g := linkBad o) (fun k hk => linkBad_front (o := o) (p := moreO o) rfl rfl hfr hk)]; exact hs
    · rw [hlast]; show within o.id 1 (o.id - 1) = false; simp [within]; omega
  unfold checkObj
  simp only [show (moreO o).id = o.id from rfl, show (moreO o).kind = o.kind from rfl, hw1, hw2, hl]
  rw [if_neg (by simp), if_neg (by simp)]
  by_cases h6 : 4 < (moreO o).links.length ∨ 8 < (moreO o).text.size
  · rw [if_pos h6]; decide
  · rw [if_neg h6]; decide

theorem less_law {o : Obj} (h : checkObj o = 0) (hn : 0 < o.links.length) : (o.kind = 2 ∨ o.kind = 3) ∧ ((checkObj (lessO o) == 0) = (decide (1 < o.links.length) || decide (o.kind = 2))) := by
  obtain ⟨h1, h2, h3, h4, h5⟩ := checkObj_ok h
  have hs : scan (linkBad o) o.links.length = 0 := by
    unfold linksErr at h5
    by_cases h0 : scan (linkBad o) o.links.length = 0
    · exact h0
    · rw [if_pos h0] at h5; exact absurd h5 h0
  have hf : formBad o = false := by
    unfold linksErr at h5
    rw [hs, if_neg (by simp)] at h5
    cases hf : formBad o
    · rfl
    · rw [hf, if_pos rfl] at h5; exact absurd h5 (by decide)
  have hk : o.kind = 2 ∨ o.kind = 3 := by
    have hne : o.kind ≠ 1 := fun e => by simp [formBad, e, hn] at hf
    omega
  have hw1 : within o.id 1 99 = true := by simp [within]; omega
  have hw2 : within o.kind 1 3 = true := by simp [within]; omega
  have hll : (lessO o).links.length = o.links.length - 1 := by simp [lessO]
  have hfr : ∀ i, i < o.links.length - 1 → nth (lessO o).links i = nth o.links i := fun i hi => by
    unfold nth at_ lessO; simp only [List.getD_eq_getElem?_getD, List.getElem?_take, hi, if_true]
  have hs' : scan (linkBad (lessO o)) (lessO o).links.length = 0 := by
    rw [hll, scan_congr (g := linkBad o) (fun k hk => linkBad_front (o := o) (p := lessO o) rfl rfl hfr hk)]
    exact scan_of_zero fun k hk => scan_zero hs k (by omega)
  have hc : checkObj (lessO o) = linksErr (lessO o) := by
    unfold checkObj
    simp only [show (lessO o).id = o.id from rfl, show (lessO o).kind = o.kind from rfl, show (lessO o).text = o.text from rfl, hw1, hw2, hll]
    rw [if_neg (by simp), if_neg (by simp), if_neg (by omega)]
  refine ⟨hk, ?_⟩
  rw [hc]
  by_cases hg : 1 < o.links.length
  · rw [linksErr_ok hs' (by unfold formBad; rw [hll]; show (decide (o.kind = 1) && _ || decide (o.kind = 3) && _) = false; rcases hk with hk | hk <;> simp [hk] <;> omega)]
    simp [hg]
  · rcases hk with hk | hk
    · rw [linksErr_ok hs' (by unfold formBad; rw [hll]; show (decide (o.kind = 1) && _ || decide (o.kind = 3) && _) = false; simp [hk])]
      simp [hk]
    · rw [linksErr_form hs' (by unfold formBad; rw [hll]; show (decide (o.kind = 1) && _ || decide (o.kind = 3) && _) = true; simp [hk]; omega)]
      simp [hk, hg]

/-- append of a []int to one of the call's own -/
theorem append_ints {x : World} {B m : Nat} {xs ys : List Int} {g c : Nat} {lv : Value} {S : Nat → Prop} (ty : TypeId) (N : Nat) (hN : N = m + ys.length) (hown : x.ownsRow B 3 1 (.slice (some ⟨g, 0, none⟩) m c) m (xs.map (Value.int .i64)))
    (hy : IntsV S x lv ys) (hm : N ≤ 1000) (hB : B ≤ x.heap.size) :
    ∃ g' c' x', (Builtin.append_ #[22, 22] ty #[.slice (some ⟨g, 0, none⟩) m c, lv]).run Try.prog x = .ok (.slice (some ⟨g', 0, none⟩) N c') x' ∧
      x'.ownsRow B 3 1 (.slice (some ⟨g', 0, none⟩) N c') N ((xs ++ ys).map (Value.int .i64)) ∧ x.grownBy x' (some g) := by
  subst hN
  obtain ⟨i0, hi, hz0, hz1, hz2⟩ := info_parts Try.infoInt
  obtain ⟨a, n, cap, HN, rfl, h1, h2, h3, h4⟩ := hy.open
  have hn : n = ys.length := HN.out
  subst hn
  by_cases h0 : ys.length = 0
  · have hnil : ys = [] := List.length_eq_zero_iff.1 h0
    subst hnil
    refine ⟨g, c, x, ?_, by simpa using hown, ⟨rfl, rfl, rfl, Nat.le_refl _, fun _ _ _ => rfl⟩⟩
    have hle : m ≤ c := by
      rcases hown.2 with ⟨e, _⟩ | ⟨g2, cap2, cur, e, _, _, hh, _⟩
      · cases e
      · simp at e; omega
    exact run_append_nothing x 22 22 ty 3 i0 Try.underlying22 hi (some ⟨g, 0, none⟩) m c hle _
      ⟨.inl ⟨_, Try.underlying22⟩, fun w' => by simp [Builtin.lenOf], by cases a <;> simp [Builtin.firstCells] <;> rfl, by cases a <;> simp [Builtin.firstCells] <;> rfl, by simp, by simp⟩
  · obtain ⟨b, off, rfl, _, hc⟩ := h4 (by omega)
    obtain ⟨g', c', x', hr, ho, hg, _, _⟩ := run_append_lies (P := Try.prog) x 22 ty B 3 i0 _ 1 8 Try.underlying22 hi hz0 hz1 hz2 rfl (by omega) _ m _ hown ⟨b, off, none⟩ ys.length cap (ys.map (Value.int .i64)) (by simp)
      (fun j u hu => by
        rw [List.getElem?_map] at hu
        by_cases hj : j < ys.length
        · rw [List.getElem?_eq_getElem hj] at hu
          simp at hu; subst hu
          have := hc j x hj (Below.refl _ _)
          rw [nth_lt hj] at this
          rw [show (⟨b, off, none⟩ : Addr).add j = ⟨b, off + j, none⟩ by unfold Addr.add; split <;> simp_all]
          exact this
        · rw [List.getElem?_eq_none (by omega)] at hu; cases hu)
      (by intro u hu; obtain ⟨k, _, rfl⟩ := List.mem_map.1 hu; rfl) (by omega) (by unfold maxLen; omega) (by omega) hB x.heap.size rfl
    exact ⟨g', c', x', hr, by simpa using ho, hg⟩

theorem wp_append_run {P : Program} {o : Oper} {a : Act} {w w' : World} {K : Act → World → Prop} {Q : Exit → Act → World → Prop} (s x : Operand) (t : TypeId)
    (ho : o.op = .call { callee := .builtin .append, args := #[s, x], argTypes := #[t, t] }) (v u r : Value) (hs : a.eval s = v) (hx : a.eval x = u)
    (hr : (Builtin.append_ #[t, t] o.type #[v, u]).run P w = .ok r w') (h : K (a.put o.dst r) w') : o.wp P a w K Q := by
  unfold Oper.wp execOp
  simp only [ho, resolve, invoke, builtin, Sem.run_bind, Sem.run_pure, Result.andThen_ok, List.map_toArray, List.map_cons, List.map_nil, hs, hx, hr]
  exact h

theorem own_empty (x : World) (t : TypeId) (B : Nat) (hB : B ≤ x.heap.size) : (x.alloc (.cells #[] t)).ownsRow B t 1 (.slice (some ⟨x.heap.size, 0, none⟩) 0 0) 0 (([] : List Int).map (Value.int .i64)) :=
  ⟨rfl, .inr ⟨x.heap.size, 0, #[], rfl, hB, heap_alloc_new x _, Nat.le_refl _, by unfold maxLen; omega, rfl, rfl⟩⟩

theorem ints_one {x : World} {g : Nat} {z : Int} {t : TypeId} (h : x.heap[g]? = some (.cells #[.int .i64 z] t (0, 0))) (hz : I64 z) : IntsV (fun _ => True) x (.slice (some ⟨g, 0, none⟩) 1 1) [z] :=
  IntsV.mk (xs := [z]) (by simp) (by omega) (by simp) trivial (fun i hi => by
    have h0 : i = 0 := by simp at hi; omega
    subst h0
    exact block_cell (j := 0) h rfl) (by intro y hy; simp only [List.mem_cons, List.not_mem_nil, or_false] at hy; subst hy; exact hz)

/-- what is known of the world, and of what has been appended so far, on every way through the law's statement -/
structure Lk (R : World → Prop) (g0 : Nat) (mc : Array Value) (t0 : TypeId) (B : Nat) (x : World) : Prop where
  cls : In R x
  more : x.heap[g0]? = some (.cells mc t0 (0, 0))
  size : B ≤ x.heap.size
section
variable {R : World → Prop} {g0 B : Nat} {mc : Array Value} {t0 : TypeId} {x y : World}
theorem Lk.alloc (h : Lk R g0 mc t0 B x) (hRa : ∀ x o, In R x → In R (x.alloc o)) (o : Go.Obj) : Lk R g0 mc t0 B (x.alloc o) :=
  ⟨hRa _ _ h.cls, (Below.heap_alloc _ _ _ (lt_of_block h.more)).trans h.more, by have := h.size; simp; omega⟩
theorem Lk.grown {N : Nat} (h : Lk R g0 mc t0 B x) (hRg : ∀ (x y : World) (row : Option Nat), In R x → x.grownBy y row → (∀ k, row = some k → N ≤ k) → In R y) {g : Nat} (hg : x.grownBy y (some g)) (hN : N ≤ g) (hB : g0 < B) (hb : B ≤ g) : Lk R g0 mc t0 B y :=
  ⟨hRg _ _ _ h.cls hg (fun k hk => by cases hk; exact hN), (hg.block g0 (lt_of_block h.more) (fun e => by cases e; omega)).trans h.more, Nat.le_trans h.size hg.size⟩
end

theorem own_ints {x : World} {B N : Nat} {v : Value} {zs : List Int} (h : x.ownsRow B 3 1 v N (zs.map (Value.int .i64))) (hN : N = zs.length) (hi : ∀ z ∈ zs, I64 z) (hb : N ≤ 1000) : IntsV (fun b => B ≤ b) x v zs := by
  subst hN
  refine ⟨own_sl h (fun g hg => (h.lt g hg).1) (by omega) (fun i hn j u hu => ?_), hi⟩
  match j, hu with
  | 0, hu =>
    simp at hu; subst hu
    simp [nth_lt hn, hn]

theorem ints_take {S : Nat → Prop} {w : World} {a : Option Addr} {n cap : Nat} {xs : List Int} (h : IntsV S w (.slice a n cap) xs) (hn : n = xs.length) : IntsV S w (.slice a (n - 1) cap) (xs.take (xs.length - 1)) := by
  obtain ⟨⟨a', cap', hv, h1, h2, h3, h4⟩, h5⟩ := h
  cases hv
  have hl : (xs.take (xs.length - 1)).length = xs.length - 1 := by simp
  refine ⟨⟨a, cap, by rw [hl], by omega, h2, by omega, fun hp => ?_⟩, fun x hx => h5 x (List.mem_of_mem_take hx)⟩
  rw [hl] at hp
  obtain ⟨b, off, ha, hS, hc⟩ := h4 (by omega)
  refine ⟨b, off, ha, hS, fun i hi j u hu => hc i (by omega) j u ?_⟩
  have hx : nth (xs.take (xs.length - 1)) i = nth xs i := by
    unfold nth at_; simp only [List.getD_eq_getElem?_getD, List.getElem?_take, show i < xs.length - 1 by omega, if_true]
  have hu' : [Value.int .i64 (nth (xs.take (xs.length - 1)) i)][j]? = some u := hu
  rw [hx] at hu'; exact hu'

theorem zero_law {o : Obj} (h : checkObj o = 0) (hn : o.links.length = 0) : (o.kind == 3) = false := by
  obtain ⟨h1, h2, h3, h4, h5⟩ := checkObj_ok h
  have hne : o.kind ≠ 3 := fun e => by
    unfold linksErr at h5
    rw [hn] at h5
    simp [scan, formBad, e, hn] at h5
  simpa using hne

set_option maxRecDepth 100000 in
set_option maxHeartbeats 1500000 in
theorem objectLinks_any (o : Obj) (lv : Value) (S : Nat → Prop) (w : World) (ho : ObjIs S w o lv) :
    Calls Try.prog 3 #[.agg #[.int .i64 o.id, .int .i64 o.kind, lv, .string o.text]] w fun e w' => e = .returned (.bool true) ∧ Below w.heap.size w w' := by
  have ho' := ho
  obtain ⟨a, n, cap, HN, rfl, hc1, hc2, hc8, hc⟩ := ho.1.lt.open
  obtain ⟨R, hR, hR1, hx0, hx1, hx2, hx3, hRs, hRz, hRg⟩ := cls_box4s w (.int .i64 o.id) (.int .i64 o.kind) (.slice a n cap) (.string o.text) 24
  have hRb := hR.below
  have hRn := hR.next
  have hRa := hR.alloc
  have hRd := hR.drew
  by_cases hz : checkObj o = 0
  · have hz' : (checkObj o == 0) = true := by simpa using hz
    have Hm := Lib.hid (more_bad hz)
    have Hl := Lib.hid (less_law hz)
    obtain ⟨hid, hki, hl4, ht8, hle⟩ := checkObj_ok hz
    clear hle
    have Hz := Lib.hid hz; clear hz
    have hn4 : n ≤ 4 := by have := HN.out; omega
    go_enter Try.func3, Try.ntmps3
    go_wp2_with (first
      | (go_at_call 17; refine (objectBegun_any _).mono ?_; rintro e w2 ⟨rfl, hb2⟩; have hR2 := hRn _ _ hR1 hb2)
      | (go_at_call 18; refine (check_any o _ _ _ (ho'.below (hRb _ hR2))).mono ?_; rintro e w3 ⟨rfl, hb3⟩; have hR3 := hRn _ _ hR2 hb3))
    have hsz3 := hRz _ hR3
    have HL := Lib.hid (show Lk R w3.heap.size #[.int .i64 o.id, .int .i64 o.kind, .slice a n cap, .string o.text] 24 (w3.heap.size + 1) (w3.alloc (.cells #[.int .i64 o.id, .int .i64 o.kind, .slice a n cap, .string o.text] 24)).drew from ⟨hRd _ (hRa _ _ hR3), heap_alloc_new w3 _, by simp⟩)
    have HLid := Lib.hid (show I64 o.id by unfold I64; omega)
    have HRa := Lib.hid hRa
    have HRg := Lib.hid hRg
    have HRd := Lib.hid hRd
    clear hRa hRg hR1 hRd
    go_big_unhide
    refine wp_region_held (S := In R) (by kernel_rfl) ?_
    change wpAnyH _ _ _ _ _ _ _ _ (World.drew _)
    generalize (w3.alloc (.cells #[.int .i64 o.id, .int .i64 o.kind, .slice a n cap, .string o.text] 24)).drew = x0 at HL ⊢
    refine wpAnyH_take (i := 1) (v := .pointer (some ⟨w.heap.size, 2, none⟩)) rfl (by kernel_rfl) (by kernel_rfl) (by kernel_rfl) (fun _ _ _ h => h) (Or.inl ⟨by rfl, fun w hSw => ?_⟩) HL.out.cls ?_
    · go_simp
    simp only [Act.put, List.setIfInBounds_toArray, List.set_cons_zero, List.set_cons_succ]
    refine wpAnyH_take (i := 4) (v := .pointer (some ⟨w.heap.size, 0, none⟩)) rfl (by kernel_rfl) (by kernel_rfl) (by kernel_rfl) (fun _ _ _ h => h) (Or.inl ⟨by rfl, fun w hSw => ?_⟩) HL.out.cls ?_
    · go_simp
    simp only [Act.put, List.setIfInBounds_toArray, List.set_cons_zero, List.set_cons_succ]
    refine wpAnyH_take (i := 2) (v := .slice a n cap) rfl (by kernel_rfl) (by kernel_rfl) (by kernel_rfl) (fun _ _ _ h => h) (Or.inl ⟨by rfl, fun w hSw => ?_⟩) HL.out.cls ?_
    · go_simp
    simp only [Act.put, List.setIfInBounds_toArray, List.set_cons_zero, List.set_cons_succ]
    refine wpAnyH_take (i := 5) (v := .int .i64 o.id) rfl (by kernel_rfl) (by kernel_rfl) (by kernel_rfl) (fun _ _ _ h => h) (Or.inl ⟨by rfl, fun w hSw => ?_⟩) HL.out.cls ?_
    · go_simp
    simp only [Act.put, List.setIfInBounds_toArray, List.set_cons_zero, List.set_cons_succ]
    refine wpAnyH_all (rs := [0, 6]) (by kernel_rfl) (by simp) (fun j hj => ?_)
    rcases List.mem_cons.1 hj with rfl | hj
    · refine Or.inl ?_
      go_simp
      refine ⟨HRa.out _ _ HL.out.cls, ?_⟩
      have HL1 := Lib.hid (HL.out.alloc HRa.out (.cells #[] 3))
      have own1 := own_empty x0 3 (w3.heap.size + 1) HL.out.size
      refine wpAnyH_all (rs := [3, 6]) (by kernel_rfl) (by simp) (fun j hj => ?_)
      rcases List.mem_cons.1 hj with rfl | hj
      · refine Or.inl ?_
        obtain ⟨g2, c2, x2, hr, own2, hgr⟩ := append_ints 22 (n) (by have := HN.out; omega) own1 (ho.1.below (hRb _ HL1.out.cls)) (by omega) HL1.out.size
        refine wp_append_run (.tmp 13) (.tmp 15) 22 (by rfl) _ _ _ (by rfl) (by rfl) hr ?_
        simp only [Act.put, List.setIfInBounds_toArray, List.set_cons_zero, List.set_cons_succ]
        have HL2 := Lib.hid (HL1.out.grown HRg.out hgr (by have := HL.out.size; omega) (by omega) HL.out.size)
        refine ⟨HL2.out.cls, ?_⟩
        refine wpAnyH_all (rs := [6]) (by kernel_rfl) (by simp) (fun j hj => ?_)
        obtain rfl : j = 6 := by simpa using hj
        refine Or.inl ?_
        go_simp
        refine ⟨HRa.out _ _ HL2.out.cls, ?_⟩
        have HL3 := Lib.hid (HL2.out.alloc HRa.out (.cells #[.int .i64 o.id] 3))
        refine wpAnyH_all (rs := [7]) (by kernel_rfl) (by simp) (fun j hj => ?_)
        obtain rfl : j = 7 := by simpa using hj
        refine Or.inl ?_
        obtain ⟨g9, c9, x9, hr, own9, hgr⟩ := append_ints 22 (n + 1) (by have := HN.out; simp [this]) (own2.alloc _) (ints_one (heap_alloc_new x2 _) HLid.out) (by omega) HL3.out.size
        refine wp_append_run (.tmp 16) (.tmp 19) 22 (by rfl) _ _ _ (by rfl) (by rfl) hr ?_
        simp only [Act.put, List.setIfInBounds_toArray, List.set_cons_zero, List.set_cons_succ]
        have HL9 := Lib.hid (HL3.out.grown HRg.out hgr (by have := (own2.lt g2 rfl).1; omega) (by omega) (own2.lt g2 rfl).1)
        refine ⟨HL9.out.cls, ?_⟩
        refine wpAnyH_all (rs := [8]) (by kernel_rfl) (by simp) (fun j hj => ?_)
        obtain rfl : j = 8 := by simpa using hj
        refine Or.inl ?_
        go_simp
        refine ⟨HL9.out.cls, ?_⟩
        refine wpAnyH_all (rs := [9]) (by kernel_rfl) (by simp) (fun j hj => ?_)
        obtain rfl : j = 9 := by simpa using hj
        refine Or.inl ?_
        have cM := block_cell (j := 2) HL9.out.more rfl
        have fM := block_free (j := 2) HL9.out.more
        go_simp
        refine ⟨hRs _ _ _ HL9.out.cls (by simp; omega), ?_⟩
        refine wpAnyH_done (by kernel_rfl) ?_ _
        have hb5 : (x9.setCell ⟨w3.heap.size, 2, none⟩ (.slice (some ⟨g9, 0, none⟩) (n + 1) c9)).heap[w3.heap.size]? = some (.cells #[.int .i64 o.id, .int .i64 o.kind, .slice (some ⟨g9, 0, none⟩) (n + 1) c9, .string o.text] 24 (0, 0)) := block_setCell (j := 2) HL9.out.more (.slice (some ⟨g9, 0, none⟩) (n + 1) c9)
        have hO := own_ints (zs := o.links ++ [o.id]) own9 (by have := HN.out; simp [this]) (by intro z hz; rcases List.mem_append.1 hz with h | h; exact ho.1.2 z h; rw [List.mem_singleton.1 h]; exact HLid.out) (by omega)
        have hO5 := hO.same (w' := x9.setCell ⟨w3.heap.size, 2, none⟩ (.slice (some ⟨g9, 0, none⟩) (n + 1) c9)) (fun b hb => Below.heap_setCell _ _ _ _ (by simp; omega))
        have hR5 := hRs _ ⟨w3.heap.size, 2, none⟩ (.slice (some ⟨g9, 0, none⟩) (n + 1) c9) HL9.out.cls (by simp; omega)
        generalize x9.setCell ⟨w3.heap.size, 2, none⟩ (.slice (some ⟨g9, 0, none⟩) (n + 1) c9) = x10 at hb5 hO5 hR5 ⊢
        have k0 : x10.cell? ⟨w3.heap.size, 0, none⟩ = some (.int .i64 o.id) := block_cell (j := 0) hb5 rfl
        have k1 : x10.cell? ⟨w3.heap.size, 1, none⟩ = some (.int .i64 o.kind) := block_cell (j := 1) hb5 rfl
        have k2 : x10.cell? ⟨w3.heap.size, 2, none⟩ = some (.slice (some ⟨g9, 0, none⟩) (n + 1) c9) := block_cell (j := 2) hb5 rfl
        have k3 : x10.cell? ⟨w3.heap.size, 3, none⟩ = some (.string o.text) := block_cell (j := 3) hb5 rfl
        have HO := Lib.hid (show Calls Try.prog 18 #[.agg #[.int .i64 o.id, .int .i64 o.kind, .slice (some ⟨g9, 0, none⟩) (n + 1) c9, .string o.text]] x10 fun e w' => e = .returned (.int .i64 (checkObj (moreO o))) ∧ Below x10.heap.size x10 w' from check_any (moreO o) _ _ _ ⟨hO5, ho.2⟩)
        have hm := Hm.out
        clear hO hO5 hb5 cM fM hr hgr
        have hRa := HRa.out
        go_wp2_with fail
        refine HO.out.mono ?_
        rintro e x11 ⟨rfl, hb11⟩
        have hR11 := hRn _ _ hR5 hb11
        clear HO k0 k1 k2 k3 hb11
        by_cases hnz : 0 < n
        · have hn0 : ((n : Int) == 0) = false := by simp; omega
          have hlen : 0 < o.links.length := by have := HN.out; omega
          obtain ⟨hk, hl⟩ := Hl.out hlen
          go_wp2_with fail
          have hR12 := hRa _ (.cells #[.int .i64 o.id, .int .i64 o.kind, .slice a (n - 1) cap, .string o.text] 24) hR11
          have hO' := check_any (lessO o) (.slice a (n - 1) cap) S _ ⟨(ints_take ho.1 HN.out).below (hRb _ hR12), ho.2⟩
          refine hO'.mono ?_
          rintro e x13 ⟨rfl, hb13⟩
          have hR13 := hRn _ _ hR12 hb13
          clear hO' hb13
          have hk1 : ¬ o.kind = 1 := by omega
          by_cases hn1 : 1 < n
          · have hl1 : (checkObj (lessO o) == 0) = true := by rw [hl]; have := HN.out; simp; omega
            clear hl hk
            go_wp2_with fail
            go_ret
            exact ⟨by simp [hk1, hn1], hRb _ hR13⟩
          · have hnn : o.links.length = 1 := by have := HN.out; omega
            rcases hk with hk | hk
            · have hl1 : (checkObj (lessO o) == 0) = true := by rw [hl]; simp [hk]
              have hk2 : (o.kind == 2) = true := by simp [hk]
              clear hl hk hnn
              go_wp2_with fail
              go_ret
              exact ⟨by simp [hk1], hRb _ hR13⟩
            · have hl1 : (checkObj (lessO o) == 0) = false := by rw [hl]; simp [hk, hnn]
              have hk2 : (o.kind == 2) = false := by simp [hk]
              clear hl hk hnn
              go_wp2_with fail
              go_ret
              exact ⟨by simp [hk1]; omega, hRb _ hR13⟩
        · have hn0 : ((n : Int) == 0) = true := by simp; omega
          have hk3 := zero_law Hz.out (by have := HN.out; omega)
          go_wp2_with fail
          go_ret
          exact ⟨by simp [bne, hk3], hRb _ hR11⟩
      · obtain rfl : j = 6 := by simpa using hj
        refine Or.inl ?_
        go_simp
        refine ⟨HRa.out _ _ HL1.out.cls, ?_⟩
        have HL2 := Lib.hid (HL1.out.alloc HRa.out (.cells #[.int .i64 o.id] 3))
        have hid2 : ((x0.alloc (.cells #[] 3)).alloc (.cells #[.int .i64 o.id] 3)).heap[x0.heap.size + 1]? = some (.cells #[.int .i64 o.id] 3 (0, 0)) := by
          have := heap_alloc_new (x0.alloc (.cells #[] 3)) (.cells #[.int .i64 o.id] 3)
          rwa [World.size_alloc] at this
        refine wpAnyH_all (rs := [3]) (by kernel_rfl) (by simp) (fun j hj => ?_)
        obtain rfl : j = 3 := by simpa using hj
        refine Or.inl ?_
        obtain ⟨g3, c3, x3, hr, own3, hgr⟩ := append_ints 22 (n) (by have := HN.out; omega) (own1.alloc _) (ho.1.below (hRb _ HL2.out.cls)) (by omega) HL2.out.size
        refine wp_append_run (.tmp 13) (.tmp 15) 22 (by rfl) _ _ _ (by rfl) (by rfl) hr ?_
        simp only [Act.put, List.setIfInBounds_toArray, List.set_cons_zero, List.set_cons_succ]
        have HL3 := Lib.hid (HL2.out.grown HRg.out hgr (by have := HL.out.size; omega) (by omega) (by have := HL.out.size; omega))
        refine ⟨HL3.out.cls, ?_⟩
        have hid3 := (hgr.block (x0.heap.size + 1) (by simp) (fun e => by simp at e)).trans hid2
        clear hid2 own1
        refine wpAnyH_all (rs := [7]) (by kernel_rfl) (by simp) (fun j hj => ?_)
        obtain rfl : j = 7 := by simpa using hj
        refine Or.inl ?_
        obtain ⟨g9, c9, x9, hr, own9, hgr⟩ := append_ints 22 (n + 1) (by have := HN.out; simp [this]) own3 (ints_one hid3 HLid.out) (by omega) HL3.out.size
        refine wp_append_run (.tmp 16) (.tmp 19) 22 (by rfl) _ _ _ (by rfl) (by rfl) hr ?_
        simp only [Act.put, List.setIfInBounds_toArray, List.set_cons_zero, List.set_cons_succ]
        have HL9 := Lib.hid (HL3.out.grown HRg.out hgr (by have := (own3.lt g3 rfl).1; omega) (by omega) (by have := (own3.lt g3 rfl).1; omega))
        refine ⟨HL9.out.cls, ?_⟩
        refine wpAnyH_all (rs := [8]) (by kernel_rfl) (by simp) (fun j hj => ?_)
        obtain rfl : j = 8 := by simpa using hj
        refine Or.inl ?_
        go_simp
        refine ⟨HL9.out.cls, ?_⟩
        refine wpAnyH_all (rs := [9]) (by kernel_rfl) (by simp) (fun j hj => ?_)
        obtain rfl : j = 9 := by simpa using hj
        refine Or.inl ?_
        have cM := block_cell (j := 2) HL9.out.more rfl
        have fM := block_free (j := 2) HL9.out.more
        go_simp
        refine ⟨hRs _ _ _ HL9.out.cls (by simp; omega), ?_⟩
        refine wpAnyH_done (by kernel_rfl) ?_ _
        have hb5 : (x9.setCell ⟨w3.heap.size, 2, none⟩ (.slice (some ⟨g9, 0, none⟩) (n + 1) c9)).heap[w3.heap.size]? = some (.cells #[.int .i64 o.id, .int .i64 o.kind, .slice (some ⟨g9, 0, none⟩) (n + 1) c9, .string o.text] 24 (0, 0)) := block_setCell (j := 2) HL9.out.more (.slice (some ⟨g9, 0, none⟩) (n + 1) c9)
        have hO := own_ints (zs := o.links ++ [o.id]) own9 (by have := HN.out; simp [this]) (by intro z hz; rcases List.mem_append.1 hz with h | h; exact ho.1.2 z h; rw [List.mem_singleton.1 h]; exact HLid.out) (by omega)
        have hO5 := hO.same (w' := x9.setCell ⟨w3.heap.size, 2, none⟩ (.slice (some ⟨g9, 0, none⟩) (n + 1) c9)) (fun b hb => Below.heap_setCell _ _ _ _ (by simp; omega))
        have hR5 := hRs _ ⟨w3.heap.size, 2, none⟩ (.slice (some ⟨g9, 0, none⟩) (n + 1) c9) HL9.out.cls (by simp; omega)
        generalize x9.setCell ⟨w3.heap.size, 2, none⟩ (.slice (some ⟨g9, 0, none⟩) (n + 1) c9) = x10 at hb5 hO5 hR5 ⊢
        have k0 : x10.cell? ⟨w3.heap.size, 0, none⟩ = some (.int .i64 o.id) := block_cell (j := 0) hb5 rfl
        have k1 : x10.cell? ⟨w3.heap.size, 1, none⟩ = some (.int .i64 o.kind) := block_cell (j := 1) hb5 rfl
        have k2 : x10.cell? ⟨w3.heap.size, 2, none⟩ = some (.slice (some ⟨g9, 0, none⟩) (n + 1) c9) := block_cell (j := 2) hb5 rfl
        have k3 : x10.cell? ⟨w3.heap.size, 3, none⟩ = some (.string o.text) := block_cell (j := 3) hb5 rfl
        have HO := Lib.hid (show Calls Try.prog 18 #[.agg #[.int .i64 o.id, .int .i64 o.kind, .slice (some ⟨g9, 0, none⟩) (n + 1) c9, .string o.text]] x10 fun e w' => e = .returned (.int .i64 (checkObj (moreO o))) ∧ Below x10.heap.size x10 w' from check_any (moreO o) _ _ _ ⟨hO5, ho.2⟩)
        have hm := Hm.out
        clear hO hO5 hb5 cM fM hr hgr
        have hRa := HRa.out
        go_wp2_with fail
        refine HO.out.mono ?_
        rintro e x11 ⟨rfl, hb11⟩
        have hR11 := hRn _ _ hR5 hb11
        clear HO k0 k1 k2 k3 hb11
        by_cases hnz : 0 < n
        · have hn0 : ((n : Int) == 0) = false := by simp; omega
          have hlen : 0 < o.links.length := by have := HN.out; omega
          obtain ⟨hk, hl⟩ := Hl.out hlen
          go_wp2_with fail
          have hR12 := hRa _ (.cells #[.int .i64 o.id, .int .i64 o.kind, .slice a (n - 1) cap, .string o.text] 24) hR11
          have hO' := check_any (lessO o) (.slice a (n - 1) cap) S _ ⟨(ints_take ho.1 HN.out).below (hRb _ hR12), ho.2⟩
          refine hO'.mono ?_
          rintro e x13 ⟨rfl, hb13⟩
          have hR13 := hRn _ _ hR12 hb13
          clear hO' hb13
          have hk1 : ¬ o.kind = 1 := by omega
          by_cases hn1 : 1 < n
          · have hl1 : (checkObj (lessO o) == 0) = true := by rw [hl]; have := HN.out; simp; omega
            clear hl hk
            go_wp2_with fail
            go_ret
            exact ⟨by simp [hk1, hn1], hRb _ hR13⟩
          · have hnn : o.links.length = 1 := by have := HN.out; omega
            rcases hk with hk | hk
            · have hl1 : (checkObj (lessO o) == 0) = true := by rw [hl]; simp [hk]
              have hk2 : (o.kind == 2) = true := by simp [hk]
              clear hl hk hnn
              go_wp2_with fail
              go_ret
              exact ⟨by simp [hk1], hRb _ hR13⟩
            · have hl1 : (checkObj (lessO o) == 0) = false := by rw [hl]; simp [hk, hnn]
              have hk2 : (o.kind == 2) = false := by simp [hk]
              clear hl hk hnn
              go_wp2_with fail
              go_ret
              exact ⟨by simp [hk1]; omega, hRb _ hR13⟩
        · have hn0 : ((n : Int) == 0) = true := by simp; omega
          have hk3 := zero_law Hz.out (by have := HN.out; omega)
          go_wp2_with fail
          go_ret
          exact ⟨by simp [bne, hk3], hRb _ hR11⟩
    · obtain rfl : j = 6 := by simpa using hj
      refine Or.inl ?_
      go_simp
      refine ⟨HRa.out _ _ HL.out.cls, ?_⟩
      have HL1 := Lib.hid (HL.out.alloc HRa.out (.cells #[.int .i64 o.id] 3))
      refine wpAnyH_all (rs := [0]) (by kernel_rfl) (by simp) (fun j hj => ?_)
      obtain rfl : j = 0 := by simpa using hj
      refine Or.inl ?_
      go_simp
      refine ⟨HRa.out _ _ HL1.out.cls, ?_⟩
      have HL2 := Lib.hid (HL1.out.alloc HRa.out (.cells #[] 3))
      have own2 := own_empty (x0.alloc (.cells #[.int .i64 o.id] 3)) 3 (w3.heap.size + 1) (by have := HL.out.size; simp; omega)
      rw [World.size_alloc] at own2
      have hid2 : ((x0.alloc (.cells #[.int .i64 o.id] 3)).alloc (.cells #[] 3)).heap[x0.heap.size]? = some (.cells #[.int .i64 o.id] 3 (0, 0)) :=
        (Below.heap_alloc _ _ _ (by simp)).trans (heap_alloc_new x0 _)
      refine wpAnyH_all (rs := [3]) (by kernel_rfl) (by simp) (fun j hj => ?_)
      obtain rfl : j = 3 := by simpa using hj
      refine Or.inl ?_
      obtain ⟨g3, c3, x3, hr, own3, hgr⟩ := append_ints 22 (n) (by have := HN.out; omega) own2 (ho.1.below (hRb _ HL2.out.cls)) (by omega) HL2.out.size
      refine wp_append_run (.tmp 13) (.tmp 15) 22 (by rfl) _ _ _ (by rfl) (by rfl) hr ?_
      simp only [Act.put, List.setIfInBounds_toArray, List.set_cons_zero, List.set_cons_succ]
      have HL3 := Lib.hid (HL2.out.grown HRg.out hgr (by have := HL.out.size; omega) (by omega) (by have := HL.out.size; omega))
      refine ⟨HL3.out.cls, ?_⟩
      have hid3 := (hgr.block x0.heap.size (by simp; omega) (fun e => by simp at e)).trans hid2
      clear hid2 own2
      refine wpAnyH_all (rs := [7]) (by kernel_rfl) (by simp) (fun j hj => ?_)
      obtain rfl : j = 7 := by simpa using hj
      refine Or.inl ?_
      obtain ⟨g9, c9, x9, hr, own9, hgr⟩ := append_ints 22 (n + 1) (by have := HN.out; simp [this]) own3 (ints_one hid3 HLid.out) (by omega) HL3.out.size
      refine wp_append_run (.tmp 16) (.tmp 19) 22 (by rfl) _ _ _ (by rfl) (by rfl) hr ?_
      simp only [Act.put, List.setIfInBounds_toArray, List.set_cons_zero, List.set_cons_succ]
      have HL9 := Lib.hid (HL3.out.grown HRg.out hgr (by have := (own3.lt g3 rfl).1; omega) (by omega) (by have := (own3.lt g3 rfl).1; omega))
      refine ⟨HL9.out.cls, ?_⟩
      refine wpAnyH_all (rs := [8]) (by kernel_rfl) (by simp) (fun j hj => ?_)
      obtain rfl : j = 8 := by simpa using hj
      refine Or.inl ?_
      go_simp
      refine ⟨HL9.out.cls, ?_⟩
      refine wpAnyH_all (rs := [9]) (by kernel_rfl) (by simp) (fun j hj => ?_)
      obtain rfl : j = 9 := by simpa using hj
      refine Or.inl ?_
      have cM := block_cell (j := 2) HL9.out.more rfl
      have fM := block_free (j := 2) HL9.out.more
      go_simp
      refine ⟨hRs _ _ _ HL9.out.cls (by simp; omega), ?_⟩
      refine wpAnyH_done (by kernel_rfl) ?_ _
      have hb5 : (x9.setCell ⟨w3.heap.size, 2, none⟩ (.slice (some ⟨g9, 0, none⟩) (n + 1) c9)).heap[w3.heap.size]? = some (.cells #[.int .i64 o.id, .int .i64 o.kind, .slice (some ⟨g9, 0, none⟩) (n + 1) c9, .string o.text] 24 (0, 0)) := block_setCell (j := 2) HL9.out.more (.slice (some ⟨g9, 0, none⟩) (n + 1) c9)
      have hO := own_ints (zs := o.links ++ [o.id]) own9 (by have := HN.out; simp [this]) (by intro z hz; rcases List.mem_append.1 hz with h | h; exact ho.1.2 z h; rw [List.mem_singleton.1 h]; exact HLid.out) (by omega)
      have hO5 := hO.same (w' := x9.setCell ⟨w3.heap.size, 2, none⟩ (.slice (some ⟨g9, 0, none⟩) (n + 1) c9)) (fun b hb => Below.heap_setCell _ _ _ _ (by simp; omega))
      have hR5 := hRs _ ⟨w3.heap.size, 2, none⟩ (.slice (some ⟨g9, 0, none⟩) (n + 1) c9) HL9.out.cls (by simp; omega)
      generalize x9.setCell ⟨w3.heap.size, 2, none⟩ (.slice (some ⟨g9, 0, none⟩) (n + 1) c9) = x10 at hb5 hO5 hR5 ⊢
      have k0 : x10.cell? ⟨w3.heap.size, 0, none⟩ = some (.int .i64 o.id) := block_cell (j := 0) hb5 rfl
      have k1 : x10.cell? ⟨w3.heap.size, 1, none⟩ = some (.int .i64 o.kind) := block_cell (j := 1) hb5 rfl
      have k2 : x10.cell? ⟨w3.heap.size, 2, none⟩ = some (.slice (some ⟨g9, 0, none⟩) (n + 1) c9) := block_cell (j := 2) hb5 rfl
      have k3 : x10.cell? ⟨w3.heap.size, 3, none⟩ = some (.string o.text) := block_cell (j := 3) hb5 rfl
      have HO := Lib.hid (show Calls Try.prog 18 #[.agg #[.int .i64 o.id, .int .i64 o.kind, .slice (some ⟨g9, 0, none⟩) (n + 1) c9, .string o.text]] x10 fun e w' => e = .returned (.int .i64 (checkObj (moreO o))) ∧ Below x10.heap.size x10 w' from check_any (moreO o) _ _ _ ⟨hO5, ho.2⟩)
      have hm := Hm.out
      clear hO hO5 hb5 cM fM hr hgr
      have hRa := HRa.out
      go_wp2_with fail
      refine HO.out.mono ?_
      rintro e x11 ⟨rfl, hb11⟩
      have hR11 := hRn _ _ hR5 hb11
      clear HO k0 k1 k2 k3 hb11
      by_cases hnz : 0 < n
      · have hn0 : ((n : Int) == 0) = false := by simp; omega
        have hlen : 0 < o.links.length := by have := HN.out; omega
        obtain ⟨hk, hl⟩ := Hl.out hlen
        go_wp2_with fail
        have hR12 := hRa _ (.cells #[.int .i64 o.id, .int .i64 o.kind, .slice a (n - 1) cap, .string o.text] 24) hR11
        have hO' := check_any (lessO o) (.slice a (n - 1) cap) S _ ⟨(ints_take ho.1 HN.out).below (hRb _ hR12), ho.2⟩
        refine hO'.mono ?_
        rintro e x13 ⟨rfl, hb13⟩
        have hR13 := hRn _ _ hR12 hb13
        clear hO' hb13
        have hk1 : ¬ o.kind = 1 := by omega
        by_cases hn1 : 1 < n
        · have hl1 : (checkObj (lessO o) == 0) = true := by rw [hl]; have := HN.out; simp; omega
          clear hl hk
          go_wp2_with fail
          go_ret
          exact ⟨by simp [hk1, hn1], hRb _ hR13⟩
        · have hnn : o.links.length = 1 := by have := HN.out; omega
          rcases hk with hk | hk
          · have hl1 : (checkObj (lessO o) == 0) = true := by rw [hl]; simp [hk]
            have hk2 : (o.kind == 2) = true := by simp [hk]
            clear hl hk hnn
            go_wp2_with fail
            go_ret
            exact ⟨by simp [hk1], hRb _ hR13⟩
          · have hl1 : (checkObj (lessO o) == 0) = false := by rw [hl]; simp [hk, hnn]
            have hk2 : (o.kind == 2) = false := by simp [hk]
            clear hl hk hnn
            go_wp2_with fail
            go_ret
            exact ⟨by simp [hk1]; omega, hRb _ hR13⟩
      · have hn0 : ((n : Int) == 0) = true := by simp; omega
        have hk3 := zero_law Hz.out (by have := HN.out; omega)
        go_wp2_with fail
        go_ret
        exact ⟨by simp [bne, hk3], hRb _ hR11⟩
  · have hz' : (checkObj o == 0) = false := by simpa using hz
    go_enter Try.func3, Try.ntmps3
    go_wp2_with (first
      | (go_at_call 17; refine (objectBegun_any _).mono ?_; rintro e w2 ⟨rfl, hb2⟩; have hR2 := hRn _ _ hR1 hb2)
      | (go_at_call 18; refine (check_any o _ _ _ (ho'.below (hRb _ hR2))).mono ?_; rintro e w3 ⟨rfl, hb3⟩; have hR3 := hRn _ _ hR2 hb3))
    go_ret
    exact ⟨rfl, hRb _ hR3⟩
end Go.Proofs.Ytcppgkhkijejoaa
