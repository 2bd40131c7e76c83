/- Memory, more: a row that is the call's own, its slice value held in a variable of one cell. No program here. -/
import Derived.Test.YtcppgkhkijejoaaMem
namespace Go.Proofs.Ytcppgkhkijejoaa
open Go.RowKit
set_option linter.unusedVariables false
set_option linter.unusedSimpArgs false

section
variable {w w' : World} {base : Nat} {e : TypeId} {size : Nat} {v : Value} {n : Nat} {xs : List Value}

theorem own_shape (h : w.ownsRow base e size v n xs) : ∃ a c, v = .slice a n c := by
  rcases h.2 with ⟨rfl, rfl⟩ | ⟨g, cap, cur, rfl, _⟩
  · exact ⟨_, _, rfl⟩
  · exact ⟨_, _, rfl⟩

theorem own_ne (h : w.ownsRow base e size v n xs) {b : Nat} {cs : Array Value} {t : TypeId} {fz : Nat × Nat} (hb : w.heap[b]? = some (.cells cs t fz)) (hne : t ≠ e) : v.ownBlock ≠ some b := by
  intro hv
  rcases h.2 with ⟨rfl, rfl⟩ | ⟨g, cap, cur, rfl, _, hg, _⟩
  · simp [Value.ownBlock] at hv
  · simp [Value.ownBlock] at hv
    subst hv
    rw [hg] at hb; simp at hb; exact hne hb.2.1.symm

/-- what is owned reads as a slice -/
theorem own_sl (h : w.ownsRow base e size v n xs) {S : Nat → Prop} {bts : Nat} {cs : Nat → List Value} (hS : ∀ g, v.ownBlock = some g → S g) (hb : n * bts ≤ 140737488351232)
    (hc : ∀ i, i < n → ∀ j u, (cs i)[j]? = some u → xs[i * size + j]? = some u) : Sl S w v size bts n cs := by
  obtain ⟨h1, h2⟩ := h
  rcases h2 with ⟨rfl, rfl⟩ | ⟨g, cap, cur, rfl, _, hg, hn, hm, hs, ht⟩
  · exact ⟨none, 0, rfl, Nat.le_refl _, by omega, hb, fun h => absurd h (by omega)⟩
  · refine ⟨_, cap, rfl, hn, by simpa [maxLen] using hm, hb, fun hp => ⟨g, 0, rfl, hS g rfl, fun i hi j u hu => ?_⟩⟩
    have hx := hc i hi j u hu
    rw [cell_of_row w g _ cur e (0, 0) hg]
    rw [← ht, List.getElem?_take] at hx
    split at hx
    · simpa using hx
    · cases hx

theorem own_mono (h : w.ownsRow base e size v n xs) {base' : Nat} (hb : base' ≤ base) : w.ownsRow base' e size v n xs := by
  refine ⟨h.1, ?_⟩
  rcases h.2 with h2 | ⟨g, cap, cur, hv, hg, r⟩
  · exact .inl h2
  · exact .inr ⟨g, cap, cur, hv, by omega, r⟩
end

theorem own_bytes {w : World} {base : Nat} {e : TypeId} {v : Value} {n : Nat} {xs : List Int} {zs : List Value} (h : w.ownsRow base e 1 v n zs) (hz : zs = xs.map (Value.int .u8)) (hn : 0 < n) :
    ∃ g cap, v = .slice (some ⟨g, 0, none⟩) n cap ∧ xs.length = n ∧ ∀ i, i < n → w.cell? ⟨g, 0 + i, none⟩ = some (.int .u8 (xs.getD i 0)) := by
  subst hz
  have hl : xs.length = n := by have := h.1; simpa using this
  rcases h.2 with ⟨rfl, rfl⟩ | ⟨g, cap, cur, rfl, _, hg, _⟩
  · omega
  · refine ⟨g, cap, rfl, hl, fun i hi => ?_⟩
    have := h.cells (g := g) rfl i (.int .u8 (xs.getD i 0)) (by
      rw [List.getElem?_map, List.getElem?_eq_getElem (by omega)]
      simp [List.getD_eq_getElem?_getD, List.getElem?_eq_getElem (show i < xs.length by omega)])
    simpa [Addr.add] using (show w.cell? ((⟨g, 0, none⟩ : Addr).add i) = _ from this) ▸ (by
      by_cases h0 : i = 0
      · subst h0; rfl
      · simp [Addr.add, h0])

/-- the cells of n elements, one behind the other -/
def flat (cs : Nat → List Value) : Nat → List Value
  | 0 => []
  | n + 1 => flat cs n ++ cs n

theorem flat_length {cs : Nat → List Value} {sz n : Nat} (h : ∀ i, i < n → (cs i).length = sz) : (flat cs n).length = n * sz := by
  induction n with
  | zero => simp [flat]
  | succ n ih => rw [flat, List.length_append, ih fun i hi => h i (by omega), h n (by omega), Nat.succ_mul]

theorem flat_get {cs : Nat → List Value} {sz n : Nat} (h : ∀ i, i < n → (cs i).length = sz) : ∀ i, i < n → ∀ j u, (cs i)[j]? = some u → (flat cs n)[i * sz + j]? = some u := by
  induction n with
  | zero => intro i hi; omega
  | succ n ih =>
    intro i hi j u hu
    have hl := flat_length (n := n) fun i hi => h i (by omega)
    have hj : j < sz := by
      have := h i hi
      rcases Nat.lt_or_ge j (cs i).length with h' | h'
      · omega
      · rw [List.getElem?_eq_none h'] at hu; cases hu
    rw [flat]
    by_cases hin : i = n
    · subst hin
      rw [List.getElem?_append_right (by omega), hl, Nat.add_sub_cancel_left]; exact hu
    · have hlt : i * sz + j < n * sz := by
        have := Nat.mul_le_mul_right sz (show i + 1 ≤ n by omega)
        rw [Nat.add_mul] at this; omega
      rw [List.getElem?_append_left (by omega)]
      exact ih (fun i hi => h i (by omega)) i (by omega) j u hu

theorem flat_congr {cs ds : Nat → List Value} {n : Nat} (h : ∀ i, i < n → cs i = ds i) : flat cs n = flat ds n := by
  induction n with
  | zero => rfl
  | succ n ih => rw [flat, flat, ih fun i hi => h i (by omega), h n (by omega)]

/-- a new block of elements -/
theorem sl_new (w : World) (cs : Nat → List Value) (sz bts n : Nat) (t : TypeId) (N : Nat) (hN : N = w.heap.size) (h : ∀ i, i < n → (cs i).length = sz) (hl : n * bts ≤ 140737488351232) (hn : n ≤ 9223372036854775807) :
    Sl (fun b => b = N) (w.alloc (.cells (flat cs n).toArray t)) (.slice (some ⟨N, 0, none⟩) n n) sz bts n cs := by
  subst hN
  refine ⟨_, n, rfl, Nat.le_refl _, hn, hl, fun _ => ⟨_, 0, rfl, rfl, fun i hi j u hu => ?_⟩⟩
  rw [World.cell?_alloc_at _ _ _ _ rfl, Nat.zero_add]
  simpa using flat_get h i hi j u hu

/-- one value is appended to the row that variable bb holds, and put back -/
theorem held_step {T : Nat → Prop} {w wr w1 : World} {bb base : Nat} {te t : TypeId} {size n m : Nat} {bv bv' v' : Value} {xs ys : List Value} {o : Go.Obj} (hte : t ≠ te)
    (hbb : bb < w.heap.size) (hT : T bb) (hTv : ∀ g, bv.ownBlock = some g → T g)
    (hbr : wr.heap[bb]? = some (.cells #[bv'] t (0, 0))) (hor : wr.ownsRow base te size bv' n xs) (hup : Upd T w wr) (hgr : ∀ g, bv'.ownBlock = some g → bv.ownBlock = some g ∨ w.heap.size ≤ g)
    (hown : w1.ownsRow base te size v' m ys) (hgrow : (wr.alloc o).grownBy w1 bv'.ownBlock) (hat : v'.ownBlock = bv'.ownBlock ∨ v'.ownBlock = some (wr.heap.size + 1)) :
    w1.cell? ⟨bb, 0, none⟩ = some bv' ∧ w1.frozen? ⟨bb, 0, none⟩ = false ∧
    (w1.setCell ⟨bb, 0, none⟩ v').heap[bb]? = some (.cells #[v'] t (0, 0)) ∧ (w1.setCell ⟨bb, 0, none⟩ v').ownsRow base te size v' m ys ∧ Upd T w (w1.setCell ⟨bb, 0, none⟩ v') ∧
      (∀ g, v'.ownBlock = some g → bv.ownBlock = some g ∨ w.heap.size ≤ g) := by
  have hne : bv'.ownBlock ≠ some bb := own_ne hor hbr hte
  have hlt := lt_of_block hbr
  have h1 : w1.heap[bb]? = some (.cells #[bv'] t (0, 0)) := by
    rw [hgrow.block bb (by simp; omega) (fun e => hne e.symm), Below.heap_alloc _ _ _ hlt]; exact hbr
  have hne' : v'.ownBlock ≠ some bb := own_ne hown h1 hte
  refine ⟨cell_of_one h1, free_of_one h1, one_setCell h1, ownsRow_setCell_other hown hne' _, ?_, fun g hg => ?_⟩
  · refine Upd.setCell ?_ (fun _ => hT) _
    refine Upd.grown (hup.alloc o) hgrow (fun k hk hlt => ?_)
    rcases hgr k hk with h | h
    · exact hTv k h
    · omega
  · rcases hat with h | h
    · exact hgr g (h ▸ hg)
    · right; rw [h] at hg; cases hg; have := hup.size; omega

end Go.Proofs.Ytcppgkhkijejoaa
