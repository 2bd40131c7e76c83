
/- WalkB: Walk6, Walk7, Walk8, Walk9. -/
import Derived.Test.YtjkbaallfkjmhaaGreatWalkA
import Derived.Test.YtjkbaallfkjmhaaGreatStorA
import Derived.Test.YtjkbaallfkjmhaaGreatObjA
/- Walks: Part, Reach. -/
namespace Go.Proofs.YtjkbaallfkjmhaaGreat
open Go.RowKit
set_option linter.unusedVariables false
set_option linter.unusedSimpArgs false

/-- the part that is known ahead of place k -/
def partTo (l : List Obj) (M : Nat → Bool) (k : Nat) : List Obj := ((List.range k).filter M).map (obj l)
theorem partTo_yes {l : List Obj} {M : Nat → Bool} {k : Nat} (h : M k = true) : partTo l M (k + 1) = partTo l M k ++ [obj l k] := by
  unfold partTo; rw [List.range_succ, List.filter_append, List.map_append]; simp [h]
theorem partTo_no {l : List Obj} {M : Nat → Bool} {k : Nat} (h : M k = false) : partTo l M (k + 1) = partTo l M k := by
  unfold partTo; rw [List.range_succ, List.filter_append, List.map_append]; simp [h]
theorem partTo_length (l : List Obj) (M : Nat → Bool) (k : Nat) : (partTo l M k).length ≤ k := by
  unfold partTo; rw [List.length_map]; exact Nat.le_trans (List.length_filter_le _ _) (by simp)

def partRes (l : List Obj) (tips : List Int) : List Obj := if thereErr l tips = 0 then partOf l tips else []

/-- a store comes back, and what is wrong -/
def RetStoreE (w w' : World) (e : Ending) (l : List Obj) (c : Int) : Prop := ∃ v, e = .returned (.tuple #[v, .int .i64 c]) ∧ StoreV (fun _ => True) w' v l ∧ Below w.heap.size w w'

def idCells (l : List Obj) (k : Nat) : List Value := ((l.take k).map (·.id)).map (Value.int .i64)
theorem reach_next {l : List Obj} {k : Nat} (h : k < l.length) : idCells l k ++ [.int .i64 (obj l k).id] = idCells l (k + 1) := by
  unfold idCells
  rw [List.take_succ_eq_append_getElem h, List.map_append, List.map_append, obj_lt h]; rfl

/-- numbers come back, and what is wrong -/
def RetIntsE (w w' : World) (e : Ending) (xs : List Int) (c : Int) : Prop := ∃ v, e = .returned (.tuple #[v, .int .i64 c]) ∧ IntsV (fun _ => True) w' v xs ∧ Below w.heap.size w w'

theorem partRes_length (l : List Obj) (tips : List Int) : (partRes l tips).length ≤ 40 := by
  unfold partRes
  split
  · rename_i h
    have := partTo_length l (reachB l false tips) l.length
    have h2 := (right_of (there_zero h).1).many
    unfold partOf
    unfold partTo at this
    omega
  · simp

end Go.Proofs.YtjkbaallfkjmhaaGreat

/- Walks: the reference's CheckThere, ReachOf. -/
namespace Go.Proofs.YtjkbaallfkjmhaaGreat
open Go.RowKit
set_option linter.unusedVariables false
set_option linter.unusedSimpArgs false

theorem sweep_congr {l : List Obj} {par : Bool} : ∀ (p : Nat) (M M' : Nat → Bool), p ≤ l.length → (∀ j, j < l.length → M j = M' j) → ∀ j, j < l.length → sweep l par p M j = sweep l par p M' j := by
  intro p
  induction p with
  | zero => exact fun M M' _ h => h
  | succ p ih =>
    intro M M' hp h j hj
    unfold sweep
    exact ih _ _ (by omega) (fun i hi => by rw [h i hi, h p (by omega)]) j hj

/-- marks, when k links of object i have been looked at -/
def LinkTo (l : List Obj) (par : Bool) (i k : Nat) (M Mk : Nat → Bool) : Prop :=
  ∀ j, j < l.length → (Mk j = true ↔ M j = true ∨ (M i = true ∧ ∃ k', k' < k ∧ (par = true → 0 < k') ∧ (obj l j).id = nth (obj l i).links k'))

theorem linkTo_zero (l : List Obj) (par : Bool) (i : Nat) (M : Nat → Bool) : LinkTo l par i 0 M M := fun j _ => ⟨.inl, fun h => h.elim id (fun ⟨_, k', h, _⟩ => absurd h (by omega))⟩
theorem linkTo_skip {l : List Obj} {par : Bool} {i k : Nat} {M Mk : Nat → Bool} (h : LinkTo l par i k M Mk) (hk : par = true ∧ k = 0) : LinkTo l par i (k + 1) M Mk := fun j hj => by
  rw [h j hj]
  constructor
  · rintro (h1 | ⟨h1, k', h2, h3, h4⟩)
    · exact .inl h1
    · exact .inr ⟨h1, k', by omega, h3, h4⟩
  · rintro (h1 | ⟨h1, k', h2, h3, h4⟩)
    · exact .inl h1
    · have := h3 hk.1; omega
theorem linkTo_mark {l : List Obj} {par : Bool} {i k c : Nat} {M Mk : Nat → Bool} (hr : Rising l) (h : LinkTo l par i k M Mk) (hM : M i = true) (hk : par = true → 0 < k) (hc : c < l.length) (hid : (obj l c).id = nth (obj l i).links k) :
    LinkTo l par i (k + 1) M (fun j => Mk j || j == c) := fun j hj => by
  simp only [Bool.or_eq_true, beq_iff_eq]
  rw [h j hj]
  constructor
  · rintro ((h1 | ⟨h1, k', h2, h3, h4⟩) | h1)
    · exact .inl h1
    · exact .inr ⟨h1, k', by omega, h3, h4⟩
    · subst h1; exact .inr ⟨hM, k, by omega, hk, hid⟩
  · rintro (h1 | ⟨h1, k', h2, h3, h4⟩)
    · exact .inl (.inl h1)
    · by_cases e : k' = k
      · subst e; exact .inr (hr.inj hj hc (h4.trans hid.symm))
      · exact .inl (.inr ⟨h1, k', by omega, h3, h4⟩)
theorem follow_iff {o : Obj} {par : Bool} {x : Int} : x ∈ follow o par ↔ ∃ k, k < o.links.length ∧ (par = true → 0 < k) ∧ x = nth o.links k := by
  constructor
  · intro h
    obtain ⟨k, h1, h2, h3⟩ := follow_mem h
    exact ⟨k, h1, h3, h2⟩
  · rintro ⟨k, h1, h2, rfl⟩
    cases par
    · show nth o.links k ∈ o.links
      rw [nth_lt h1]; exact List.getElem_mem h1
    · have hk := h2 rfl
      show nth o.links k ∈ o.links.drop 1
      rw [List.mem_iff_getElem]
      refine ⟨k - 1, by simp; omega, ?_⟩
      rw [List.getElem_drop, nth_lt h1]; congr 1; omega
theorem linkTo_end {l : List Obj} {par : Bool} {i k : Nat} {M Mk : Nat → Bool} (h : LinkTo l par i k M Mk) (hk : k = (obj l i).links.length ∨ M i = false) : ∀ j, j < l.length → Mk j = (M j || (M i && edgeB l par i j)) := by
  intro j hj
  rw [Bool.eq_iff_iff, h j hj]
  simp only [Bool.or_eq_true, Bool.and_eq_true, edgeB, decide_eq_true_eq, List.any_eq_true, beq_iff_eq]
  constructor
  · rintro (h1 | ⟨h1, k', h2, h3, h4⟩)
    · exact .inl h1
    · rcases hk with hk | hk
      · exact .inr ⟨h1, hj, _, follow_iff.2 ⟨k', by omega, h3, rfl⟩, h4.symm⟩
      · rw [hk] at h1; cases h1
  · rintro (h1 | ⟨h1, _, x, hx, hxe⟩)
    · exact .inl h1
    · rcases hk with hk | hk
      · obtain ⟨k', h2, h3, rfl⟩ := follow_iff.1 hx
        exact .inr ⟨h1, k', by omega, h3, hxe.symm⟩
      · rw [hk] at h1; cases h1

/-- marks come back -/
def RetMarks (l : List Obj) (par : Bool) (tips : List Int) (w : World) (e : Ending) (w' : World) : Prop :=
  ∃ bm M, e = .returned (.slice (some ⟨bm, 0, none⟩) l.length l.length) ∧ w'.heap[bm]? = some (.cells (markRow l.length M) 4 (0, 0)) ∧ (∀ j, j < l.length → M j = reachB l par tips j) ∧ Below w.heap.size w w'

def TipTo (l : List Obj) (tips : List Int) (k : Nat) (M : Nat → Bool) : Prop := ∀ j, j < l.length → (M j = true ↔ ∃ k', k' < k ∧ (obj l j).id = nth tips k')
theorem tipTo_next {l : List Obj} {tips : List Int} {k c : Nat} {M : Nat → Bool} (hr : Rising l) (h : TipTo l tips k M) (hc : c < l.length) (hid : (obj l c).id = nth tips k) : TipTo l tips (k + 1) (fun j => M j || j == c) := fun j hj => by
  simp only [Bool.or_eq_true, beq_iff_eq]
  rw [h j hj]
  constructor
  · rintro (⟨k', h1, h2⟩ | h1)
    · exact ⟨k', by omega, h2⟩
    · subst h1; exact ⟨k, by omega, hid⟩
  · rintro ⟨k', h1, h2⟩
    by_cases e : k' = k
    · subst e; exact .inr (hr.inj hj hc (h2.trans hid.symm))
    · exact .inl ⟨k', by omega, h2⟩
theorem tipTo_end {l : List Obj} {tips : List Int} {M : Nat → Bool} (h : TipTo l tips tips.length M) : ∀ j, j < l.length → M j = tipB l tips j := fun j hj => by
  rw [Bool.eq_iff_iff, h j hj]
  unfold tipB
  rw [List.any_eq_true]
  constructor
  · rintro ⟨k, h1, h2⟩
    exact ⟨nth tips k, by rw [nth_lt h1]; exact List.getElem_mem h1, by rw [h2]; simp⟩
  · rintro ⟨x, hx, hxe⟩
    obtain ⟨k, hk, rfl⟩ := List.getElem_of_mem hx
    exact ⟨k, hk, by rw [nth_lt hk]; exact (by simpa using hxe : tips[k] = (obj l j).id).symm⟩

end Go.Proofs.YtjkbaallfkjmhaaGreat

/- Walks: the reference's PartOf, IsBehind, SameStore; the law's storeIs. -/
namespace Go.Proofs.YtjkbaallfkjmhaaGreat
open Go.RowKit
set_option linter.unusedVariables false
set_option linter.unusedSimpArgs false

theorem StoreV.vshape {S : Nat → Prop} {w : World} {v : Value} {l : List Obj} (h : StoreV S w v l) : ∃ a c, v = .slice a l.length c := let ⟨_, ⟨a, cap, hv, _⟩, _⟩ := h; ⟨a, cap, hv⟩

def sameStore (xs ys : List Obj) : Bool := decide (xs.length = ys.length) && (List.range xs.length).all (fun i => sameObj (obj xs i) (obj ys i))
theorem sameStore_iff (xs ys : List Obj) : sameStore xs ys = true ↔ xs = ys := by
  unfold sameStore
  simp only [Bool.and_eq_true, decide_eq_true_eq, List.all_eq_true, List.mem_range]
  constructor
  · rintro ⟨h1, h2⟩
    apply List.ext_getElem h1
    intro i g1 g2
    have := (sameObj_iff _ _).1 (h2 i g1)
    rwa [obj_lt g1, obj_lt g2] at this
  · rintro rfl
    exact ⟨rfl, fun i _ => (sameObj_iff _ _).2 rfl⟩
theorem sameStore_refl (xs : List Obj) : sameStore xs xs = true := (sameStore_iff _ _).2 rfl
theorem sameStore_len {xs ys : List Obj} (h : xs.length ≠ ys.length) : sameStore xs ys = false := by unfold sameStore; simp [h]
theorem sameStore_at {xs ys : List Obj} {k : Nat} (hk : k < xs.length) (h : sameObj (obj xs k) (obj ys k) = false) : sameStore xs ys = false := by
  cases e : sameStore xs ys
  · rfl
  · have := (sameStore_iff _ _).1 e
    subst this
    rw [(sameObj_iff _ _).2 rfl] at h; cases h
theorem sameStore_all {xs ys : List Obj} (hl : xs.length = ys.length) (h : ∀ k, k < xs.length → sameObj (obj xs k) (obj ys k) = true) : sameStore xs ys = true := by
  unfold sameStore
  simp only [Bool.and_eq_true, decide_eq_true_eq, List.all_eq_true, List.mem_range]
  exact ⟨hl, h⟩

set_option maxRecDepth 100000 in
set_option maxHeartbeats 2000000 in
theorem sameStore_any (xs ys : List Obj) (v v' : Value) (S S' : Nat → Prop) (w : World) (h1 : StoreV S w v xs) (h2 : StoreV S' w v' ys) :
    Calls Tryz.prog 16 #[v, v'] w fun e w' => e = .returned (.bool (sameStore xs ys)) ∧ Below w.heap.size w w' := by
  obtain ⟨a, n, cap, la, ln, lc, HN, rfl, _, hc, _, h4, h5⟩ := h1.open
  obtain ⟨a', n', cap', la', ln', lc', HN', rfl, _, hc', _, h4', h5'⟩ := h2.open
  obtain ⟨R, hR, hR1, _⟩ := cls_plain w
  have hRb := hR.below
  have hRg := cls_grown hR
  clear h1 h2
  by_cases hl : n = n'
  · subst hl
    have Hall := Lib.hid (sameStore_all (xs := xs) (ys := ys) (by rw [← HN.out.1, ← HN'.out.1]))
    go_enter Tryz.func16, Tryz.ntmps16
    go_wp2_with fail
    go_loopw [5] (fun i wr => ∃ k : Nat, k ≤ n ∧ i = .int .i64 k ∧ Hid (∀ j, j < k → sameObj (obj xs j) (obj ys j) = true) ∧ In R wr) (fun i _ => n - (intOf i).toNat)
    case atStart => exact ⟨0, by omega, rfl, fun j hj => absurd hj (by omega), hR1⟩
    case round =>
      obtain ⟨k, hk, rfl, Hs, hRw⟩ := hrel
      clear hR1
      by_cases hlt : k < n
      · obtain ⟨b, off, rfl, hb, k0, k1, k2, k3⟩ := h4 (by omega)
        obtain ⟨b', off', rfl, hb', k0', k1', k2', k3'⟩ := h4' (by omega)
        have x0 := fun x (hx : In R x) => k0 k x hlt (hRb x hx)
        have x1 := fun x (hx : In R x) => k1 k x hlt (hRb x hx)
        have x2 := fun x (hx : In R x) => k2 k x hlt (hRb x hx)
        have x3 := fun x (hx : In R x) => k3 k x hlt (hRb x hx)
        have y0 := fun x (hx : In R x) => k0' k x hlt (hRb x hx)
        have y1 := fun x (hx : In R x) => k1' k x hlt (hRb x hx)
        have y2 := fun x (hx : In R x) => k2' k x hlt (hRb x hx)
        have y3 := fun x (hx : In R x) => k3' k x hlt (hRb x hx)
        have Hso := Lib.hid (fun x (hx : In R x) => sameObject_any (obj xs k) (obj ys k) _ _ S S' x ((h5 k hlt).below (hRb x hx)) ((h5' k hlt).below (hRb x hx)))
        clear k0 k1 k2 k3 k0' k1' k2' k3' h4 h4' h5 h5'
        have hi1 : (0 : Int) ≤ (k : Int) := by omega
        have hi2 : (k : Int) < (n : Int) := by omega
        cases hq : sameObj (obj xs k) (obj ys k)
        · have He := Lib.hid (sameStore_at (by rw [← HN.out.1]; exact hlt) hq)
          rw [hq] at Hso
          go_wp2_with fail
          refine wp_region_quiet_below (by kernel_rfl) (by kernel_rfl) ?_
          repeat (quiet_step (exact Calls.regrown_of (Hso.out _ (hRg _ _ _ hRw))))
          refine wpQuiet_nil ?_
          intro _ hw'
          obtain ⟨⟨dq, osq⟩, hw''⟩ := hw'
          subst hw''
          have hR4 := hRg _ dq osq hRw
          go_wp2_with fail
          go_ret
          exact ⟨by rw [He.out]; rfl, hRb _ hR4⟩
        · have He := Lib.hid hq
          rw [hq] at Hso
          go_wp2_with fail
          refine wp_region_quiet_below (by kernel_rfl) (by kernel_rfl) ?_
          repeat (quiet_step (exact Calls.regrown_of (Hso.out _ (hRg _ _ _ hRw))))
          refine wpQuiet_nil ?_
          intro _ hw'
          obtain ⟨⟨dq, osq⟩, hw''⟩ := hw'
          subst hw''
          have hR4 := hRg _ dq osq hRw
          generalize Go.Sort.grow (redrawn wr dq) osq = w4 at *
          go_wp2_with fail
          go_roundw
          case rel => exact ⟨k + 1, by omega, by go_num, all_next Hs.out He.out, hR4⟩
          case measure => simp [intOf]; omega
      · have HE := Lib.hid (show sameStore xs ys = true from Hall.out (fun j hj => Hs.out j (by have := HN.out.1; omega)))
        go_wp2_with fail
        go_ret
        exact ⟨by rw [HE.out]; rfl, hRb _ hRw⟩
  · have Hl := Lib.hid (sameStore_len (xs := xs) (ys := ys) (by rw [← HN.out.1, ← HN'.out.1]; exact hl))
    go_enter Tryz.func16, Tryz.ntmps16
    go_wp2_with fail
    go_ret
    exact ⟨by rw [Hl.out]; rfl, hRb _ hR1⟩

/-- what storeIs asks -/
def storeIsB (l : List Obj) (e c : Int) (want : List Obj) : Bool := (e == c) && sameStore l (if c = 0 then want else [])
theorem storeIsB_same (l : List Obj) (e : Int) : storeIsB l e e l = true ↔ (e = 0 ∨ l = []) := by
  unfold storeIsB
  by_cases h : e = 0
  · simp [h, sameStore_refl]
  · simp [h, sameStore_iff]

end Go.Proofs.YtjkbaallfkjmhaaGreat

/- Walks: the law's first test of walks. -/
namespace Go.Proofs.YtjkbaallfkjmhaaGreat
open Go.RowKit
set_option linter.unusedVariables false
set_option linter.unusedSimpArgs false

theorem begun_w1 : thereErr shelfL [3] = 0 := by decide +kernel
theorem begun_w2 : (partRes shelfL [3]).map (·.id) = [1, 2, 3] := by decide +kernel
theorem begun_w3 : partRes shelfL [3] = shelfL.take 3 := by kernel_rfl
theorem begun_w4 : behindErr shelfL 3 5 = 0 := by decide +kernel
theorem begun_w5 : behindRes shelfL 3 5 = true := by decide +kernel
theorem begun_w6 : behindErr shelfL 5 3 = 0 := by decide +kernel
theorem begun_w7 : behindRes shelfL 5 3 = false := by decide +kernel
theorem begun_w8 : behindErr shelfL 2 5 = 7 := by decide +kernel
theorem begun_w9 : sameInts [1, 2, 3] [1, 2, 3] = true := by decide +kernel

theorem ints_lit {w : World} {xs : List Int} {t : TypeId} (h : ∀ x ∈ xs, 0 ≤ x ∧ x ≤ 1000) (hl : xs.length ≤ 1000) :
    IntsV (fun b => b = w.heap.size) (w.alloc (.cells (xs.map (Value.int .i64)).toArray t)) (.slice (some ⟨w.heap.size, 0, none⟩) xs.length xs.length) xs :=
  ints_new w xs t _ rfl (by omega) (fun x hx => small64 x (h x hx))

end Go.Proofs.YtjkbaallfkjmhaaGreat
