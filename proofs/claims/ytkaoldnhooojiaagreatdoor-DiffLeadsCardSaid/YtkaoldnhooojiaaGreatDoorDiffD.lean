
/- DiffD: walks of the reference's CheckLists, SameUpdates. -/
import Derived.Test.YtkaoldnhooojiaaGreatDoorDiffB
import Derived.Test.YtkaoldnhooojiaaGreatDoorRowU
import Derived.Test.YtkaoldnhooojiaaGreatDoorRowR
namespace Go.Proofs.YtkaoldnhooojiaaGreatDoor
open Go.RowKit
set_option linter.unusedVariables false
set_option linter.unusedSimpArgs false

theorem scan_split (f : Nat → Int) (a b : Nat) : scan f (a + b) = if scan f a ≠ 0 then scan f a else scan (fun k => f (a + k)) b := by
  induction b with
  | zero => simp only [Nat.add_zero]; by_cases h : scan f a = 0 <;> simp [h, scan]
  | succ b ih =>
    rw [← Nat.add_assoc]
    by_cases h : scan f a = 0
    · rw [if_neg (by simpa using h)] at ih ⊢
      by_cases h2 : scan (fun k => f (a + k)) b = 0
      · rw [h2] at ih
        by_cases h3 : f (a + b) = 0
        · rw [scan_next ih h3, scan_next (f := fun k => f (a + k)) h2 h3]
        · rw [scan_hit ih h3 (Nat.lt_succ_self _), scan_hit (f := fun k => f (a + k)) h2 h3 (Nat.lt_succ_self _)]
      · have e1 : scan (fun k => f (a + k)) (b + 1) = scan (fun k => f (a + k)) b := by simp [scan, h2]
        have e2 : scan f (a + b + 1) = scan f (a + b) := by rw [scan, ih]; simp [h2]
        rw [e1, e2, ih]
    · rw [if_pos h] at ih ⊢
      have e2 : scan f (a + b + 1) = scan f (a + b) := by rw [scan, ih]; simp [h]
      rw [e2, ih]
theorem rf_append_lt {l m : List Rf} {i : Nat} (h : i < l.length) : rf (l ++ m) i = rf l i := by unfold rf at_; simp only [List.getD_eq_getElem?_getD, List.getElem?_append_left h]
theorem rf_append_ge {l m : List Rf} {i : Nat} : rf (l ++ m) (l.length + i) = rf m i := by
  unfold rf at_; simp only [List.getD_eq_getElem?_getD]
  rw [List.getElem?_append_right (by omega), show l.length + i - l.length = i by omega]
theorem namesE_append (l m : List Rf) : namesE (l ++ m) = if namesE l ≠ 0 then namesE l else namesE m := by
  unfold namesE
  rw [List.length_append, scan_split]
  have e1 : scan (fun k => nameErr (rf (l ++ m) k).name) l.length = scan (fun k => nameErr (rf l k).name) l.length := scan_congr fun k hk => by rw [rf_append_lt hk]
  have e2 : scan (fun k => nameErr (rf (l ++ m) (l.length + k)).name) m.length = scan (fun k => nameErr (rf m k).name) m.length := scan_congr fun k hk => by rw [rf_append_ge]
  rw [e1, e2]
theorem lists_many {l m : List Rf} (h : 8 < l.length ∨ 8 < m.length) : listsE l m = 2 := by unfold listsE; rw [if_pos h]
theorem lists_few {l m : List Rf} (h1 : l.length ≤ 8) (h2 : m.length ≤ 8) : listsE l m = if namesE (l ++ m) ≠ 0 then namesE (l ++ m) else if risesB l = true ∧ risesB m = true then 0 else 4 := by
  unfold listsE
  rw [if_neg (by omega), namesE_append]
  by_cases h : namesE l = 0
  · simp only [h, ne_eq, not_true, if_false]
  · simp only [h, ne_eq, not_false_eq_true, if_true]

theorem step_less {l : List Rf} {k : Nat} (h : Op.bytesLess (rf l k).name.toList (rf l (k - 1)).name.toList = true) : stepB l k = false := strLt_asymm h
theorem step_same {l : List Rf} {k : Nat} (h : ((rf l k).name.toList == (rf l (k - 1)).name.toList) = true) : stepB l k = false := by
  unfold stepB strLt; rw [beq_iff_eq.1 h]; exact less_irrefl _
theorem step_else {l : List Rf} {k : Nat} (h : Op.bytesLess (rf l k).name.toList (rf l (k - 1)).name.toList = false) (h2 : ((rf l k).name.toList == (rf l (k - 1)).name.toList) = false) : stepB l k = true := by
  cases e : stepB l k
  · have := strLt_tri (show strLt (rf l (k - 1)).name (rf l k).name = false from e) h
    rw [this] at h2; simp at h2
  · rfl

/-- are two updates the same? -/
def sameMv (a b : Mv) : Bool := (a.name.toList == b.name.toList) && (a.old == b.old) && (a.new == b.new)
theorem sameMv_iff (a b : Mv) : sameMv a b = true ↔ a = b := by
  unfold sameMv
  simp only [Bool.and_eq_true, beq_iff_eq]
  constructor
  · rintro ⟨⟨h1, h2⟩, h3⟩
    exact mv_ext (by have := (text_eq a.name b.name); rw [h1] at this; simpa using this) h2 h3
  · rintro rfl; exact ⟨⟨rfl, rfl⟩, rfl⟩
set_option maxHeartbeats 1000000 in
theorem run_neq_mv (a b : Mv) (w : World) : (binOp .neq 36 (.agg #[.string a.name, .int .i64 a.old, .int .i64 a.new]) (.agg #[.string b.name, .int .i64 b.old, .int .i64 b.new])).run Tryz.prog w = .ok (.bool !sameMv a b) w := by
  have hS : Tryz.prog.underlying 36 = some (.struct (Tryz.prog.fieldsOf 36)) := by kernel_rfl
  have hp : Tryz.prog.stoodInHeld 36 = false := by kernel_rfl
  have u9 := Tryz.underlying9
  have u3 := Tryz.underlying3
  rw [run_neq_struct, show (10000 : Nat) = 9999 + 1 from rfl, run_equalIn_agg w 9999 36 _ _ hS hp]
  simp only [Program.fieldsOf, Tryz.underlying36]
  unfold sameMv
  go_simp
  by_cases h1 : a.name.toList = b.name.toList <;> by_cases h2 : a.old = b.old <;> by_cases h3 : a.new = b.new <;> simp [h1, h2, h3]

def sameMvs (xs ys : List Mv) : Bool := decide (xs.length = ys.length) && (List.range xs.length).all fun k => sameMv (mv xs k) (mv ys k)
theorem sameMvs_iff (xs ys : List Mv) : sameMvs xs ys = true ↔ xs = ys := by
  unfold sameMvs
  simp only [Bool.and_eq_true, decide_eq_true_eq, List.all_eq_true, List.mem_range, sameMv_iff]
  constructor
  · rintro ⟨h1, h2⟩
    apply List.ext_getElem h1
    intro i hi hi2
    have := h2 i hi
    rwa [mv_lt hi, mv_lt hi2] at this
  · rintro rfl; exact ⟨rfl, fun _ _ => rfl⟩
theorem sameMvs_len {xs ys : List Mv} (h : xs.length ≠ ys.length) : sameMvs xs ys = false := by unfold sameMvs; simp [h]
theorem sameMvs_at {xs ys : List Mv} {k : Nat} (hk : k < xs.length) (h : sameMv (mv xs k) (mv ys k) = false) : sameMvs xs ys = false := by
  cases e : sameMvs xs ys
  · rfl
  · rw [sameMvs_iff] at e
    subst e
    rw [(sameMv_iff _ _).2 rfl] at h; cases h
theorem sameMvs_all {xs ys : List Mv} (hl : xs.length = ys.length) (h : ∀ k, k < xs.length → sameMv (mv xs k) (mv ys k) = true) : sameMvs xs ys = true := by
  unfold sameMvs
  simp only [Bool.and_eq_true, decide_eq_true_eq, List.all_eq_true, List.mem_range]
  exact ⟨hl, h⟩

set_option maxHeartbeats 2000000 in
theorem sameUpdates_any (xs ys : List Mv) (v v' : Value) (S S' : Nat → Prop) (w : World) (h1 : MvsV S w v xs) (h2 : MvsV S' w v' ys) :
    Calls Tryz.prog 57 #[v, v'] w fun e w' => e = .returned (.bool (sameMvs xs ys)) ∧ Below w.heap.size w w' := by
  obtain ⟨a, n, cap, HN, rfl, hc1, hc2, hc8, hc⟩ := h1.open
  obtain ⟨a', n', cap', HN', rfl, hc1', hc2', hc8', hc'⟩ := h2.open
  obtain ⟨R, hR, hR1, _⟩ := cls_plain w
  have hRb := hR.below
  have hRn := hR.drewN
  by_cases hl : n = n'
  · subst hl
    have Hall := Lib.hid (sameMvs_all (xs := xs) (ys := ys) (by rw [← HN.out, ← HN'.out]))
    go_enter Tryz.func57, Tryz.ntmps57
    go_wp2
    go_loopw [5] (fun i wr => ∃ k : Nat, k ≤ n ∧ i = .int .i64 k ∧ Hid (∀ j, j < k → sameMv (mv xs j) (mv ys j) = true) ∧ In R wr) (fun i _ => n - (intOf i).toNat)
    case atStart => exact ⟨0, by omega, rfl, fun j hj => absurd hj (by omega), hR1⟩
    case round =>
      obtain ⟨k, hk, rfl, Hs, hRw⟩ := hrel
      clear hR1
      by_cases hlt : k < n
      · obtain ⟨b, off, rfl, hb, k0, k1, k2⟩ := hc (by omega)
        obtain ⟨b', off', rfl, hb', k0', k1', k2'⟩ := hc' (by omega)
        have x0 : ∀ x, In R x → x.cell? ⟨b, off + k * 3, none⟩ = some (.string (mv xs k).name) := fun x hx => k0 k x hlt (hRb x hx)
        have x1 : ∀ x, In R x → x.cell? ⟨b, off + k * 3 + 1, none⟩ = some (.int .i64 (mv xs k).old) := fun x hx => k1 k x hlt (hRb x hx)
        have x2 : ∀ x, In R x → x.cell? ⟨b, off + k * 3 + 2, none⟩ = some (.int .i64 (mv xs k).new) := fun x hx => k2 k x hlt (hRb x hx)
        have x0' : ∀ x, In R x → x.cell? ⟨b', off' + k * 3, none⟩ = some (.string (mv ys k).name) := fun x hx => k0' k x hlt (hRb x hx)
        have x1' : ∀ x, In R x → x.cell? ⟨b', off' + k * 3 + 1, none⟩ = some (.int .i64 (mv ys k).old) := fun x hx => k1' k x hlt (hRb x hx)
        have x2' : ∀ x, In R x → x.cell? ⟨b', off' + k * 3 + 2, none⟩ = some (.int .i64 (mv ys k).new) := fun x hx => k2' k x hlt (hRb x hx)
        clear hc hc' k0 k1 k0' k1' k2 k2'
        have hi1 : (0 : Int) ≤ (k : Int) := by omega
        have hi2 : (k : Int) < (n : Int) := by omega
        have hneq := run_neq_mv (mv xs k) (mv ys k)
        cases he : sameMv (mv xs k) (mv ys k)
        · rw [he] at hneq
          have Hq := Lib.hid (sameMvs_at (xs := xs) (ys := ys) (k := k) (by rw [← HN.out]; exact hlt) he); clear he
          go_wp2_with fail
          go_quiet (fail)
          go_wp2
          go_ret
          exact ⟨by rw [Hq.out]; rfl, hRb _ (hRn _ _ hRw)⟩
        · rw [he] at hneq
          have He := Lib.hid he; clear he
          go_wp2_with fail
          go_quiet (fail)
          go_wp2
          go_roundw
          case rel => exact ⟨k + 1, by omega, by go_num, all_next Hs.out He.out, hRn _ _ hRw⟩
          case measure => simp [intOf]; omega
      · have Hk := Lib.hid (show sameMvs xs ys = true from Hall.out (fun j hj => Hs.out j (by have := HN.out; omega)))
        go_wp2
        go_ret
        exact ⟨by rw [Hk.out]; rfl, hRb _ hRw⟩
  · have Hl := Lib.hid (sameMvs_len (xs := xs) (ys := ys) (by rw [← HN.out, ← HN'.out]; exact hl))
    go_enter Tryz.func57, Tryz.ntmps57
    go_wp2
    go_ret
    exact ⟨by rw [Hl.out]; rfl, hRb _ hR1⟩
end Go.Proofs.YtkaoldnhooojiaaGreatDoor
