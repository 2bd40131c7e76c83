
/- DiffD: walks of the reference's CheckLists, SameUpdates. -/
import Derived.Test.YtdhoodloklgokaaGreatDoorDiffP
import Derived.Test.YtdhoodloklgokaaGreatDoorRefB
import Derived.Test.YtdhoodloklgokaaGreatDoorRowU
import Derived.Test.YtdhoodloklgokaaGreatDoorRowR
namespace Go.Proofs.YtdhoodloklgokaaGreatDoor
open Go.RowKit
set_option linter.unusedVariables false
set_option linter.unusedSimpArgs false

/-- are two updates the same? -/
def sameMv (a b : Mv) : Bool := (a.name.toList == b.name.toList) && (a.old == b.old) && (a.new == b.new)
theorem sameMv_iff (a b : Mv) : sameMv a b = true ↔ a = b := by
  unfold sameMv
  simp only [Bool.and_eq_true, beq_iff_eq]
  constructor
  · rintro ⟨⟨h1, h2⟩, h3⟩
    exact mv_ext (by have := (text_eq a.name b.name); rw [h1] at this; simpa using this) h2 h3
  · rintro rfl; exact ⟨⟨rfl, rfl⟩, rfl⟩
set_option maxHeartbeats 1000000 in
theorem run_neq_mv (a b : Mv) (w : World) : (binOp .neq 93 (.agg #[.string a.name, .int .i64 a.old, .int .i64 a.new]) (.agg #[.string b.name, .int .i64 b.old, .int .i64 b.new])).run Tryz.prog w = .ok (.bool !sameMv a b) w := by
  have hS : Tryz.prog.underlying 93 = some (.struct (Tryz.prog.fieldsOf 93)) := by kernel_rfl
  have hp : Tryz.prog.stoodInHeld 93 = false := by kernel_rfl
  have u9 := Tryz.underlying9
  have u3 := Tryz.underlying3
  rw [run_neq_struct, show (10000 : Nat) = 9999 + 1 from rfl, run_equalIn_agg w 9999 93 _ _ hS hp]
  simp only [Program.fieldsOf, Tryz.underlying93]
  unfold sameMv
  go_simp
  by_cases h1 : a.name.toList = b.name.toList <;> by_cases h2 : a.old = b.old <;> by_cases h3 : a.new = b.new <;> simp [h1, h2, h3]

def sameMvs (xs ys : List Mv) : Bool := decide (xs.length = ys.length) && (List.range xs.length).all fun k => sameMv (mv xs k) (mv ys k)
theorem sameMvs_iff (xs ys : List Mv) : sameMvs xs ys = true ↔ xs = ys := by
  unfold sameMvs
  simp only [Bool.and_eq_true, decide_eq_true_eq, List.all_eq_true, List.mem_range, sameMv_iff]
  constructor
  · rintro ⟨h1, h2⟩
    apply List.ext_getElem h1
    intro i hi hi2
    have := h2 i hi
    rwa [mv_lt hi, mv_lt hi2] at this
  · rintro rfl; exact ⟨rfl, fun _ _ => rfl⟩
theorem sameMvs_len {xs ys : List Mv} (h : xs.length ≠ ys.length) : sameMvs xs ys = false := by unfold sameMvs; simp [h]
theorem sameMvs_at {xs ys : List Mv} {k : Nat} (hk : k < xs.length) (h : sameMv (mv xs k) (mv ys k) = false) : sameMvs xs ys = false := by
  cases e : sameMvs xs ys
  · rfl
  · rw [sameMvs_iff] at e
    subst e
    rw [(sameMv_iff _ _).2 rfl] at h; cases h
theorem sameMvs_all {xs ys : List Mv} (hl : xs.length = ys.length) (h : ∀ k, k < xs.length → sameMv (mv xs k) (mv ys k) = true) : sameMvs xs ys = true := by
  unfold sameMvs
  simp only [Bool.and_eq_true, decide_eq_true_eq, List.all_eq_true, List.mem_range]
  exact ⟨hl, h⟩

set_option maxHeartbeats 2000000 in
theorem sameUpdates_any (xs ys : List Mv) (v v' : Value) (S S' : Nat → Prop) (w : World) (h1 : MvsV S w v xs) (h2 : MvsV S' w v' ys) :
    Calls Tryz.prog 90 #[v, v'] w fun e w' => e = .returned (.bool (sameMvs xs ys)) ∧ Below w.heap.size w w' := by
  obtain ⟨a, n, cap, HN, rfl, hc1, hc2, hc8, hc⟩ := h1.open
  obtain ⟨a', n', cap', HN', rfl, hc1', hc2', hc8', hc'⟩ := h2.open
  obtain ⟨R, hR, hR1, _⟩ := cls_plain w
  have hRb := hR.below
  have hRn := hR.drewN
  by_cases hl : n = n'
  · subst hl
    have Hall := Lib.hid (sameMvs_all (xs := xs) (ys := ys) (by rw [← HN.out, ← HN'.out]))
    go_enter Tryz.func90, Tryz.ntmps90
    go_wp2
    go_loopw [5] (fun i wr => ∃ k : Nat, k ≤ n ∧ i = .int .i64 k ∧ Hid (∀ j, j < k → sameMv (mv xs j) (mv ys j) = true) ∧ In R wr) (fun i _ => n - (intOf i).toNat)
    case atStart => exact ⟨0, by omega, rfl, fun j hj => absurd hj (by omega), hR1⟩
    case round =>
      obtain ⟨k, hk, rfl, Hs, hRw⟩ := hrel
      clear hR1
      by_cases hlt : k < n
      · obtain ⟨b, off, rfl, hb, k0, k1, k2⟩ := hc (by omega)
        obtain ⟨b', off', rfl, hb', k0', k1', k2'⟩ := hc' (by omega)
        have x0 : ∀ x, In R x → x.cell? ⟨b, off + k * 3, none⟩ = some (.string (mv xs k).name) := fun x hx => k0 k x hlt (hRb x hx)
        have x1 : ∀ x, In R x → x.cell? ⟨b, off + k * 3 + 1, none⟩ = some (.int .i64 (mv xs k).old) := fun x hx => k1 k x hlt (hRb x hx)
        have x2 : ∀ x, In R x → x.cell? ⟨b, off + k * 3 + 2, none⟩ = some (.int .i64 (mv xs k).new) := fun x hx => k2 k x hlt (hRb x hx)
        have x0' : ∀ x, In R x → x.cell? ⟨b', off' + k * 3, none⟩ = some (.string (mv ys k).name) := fun x hx => k0' k x hlt (hRb x hx)
        have x1' : ∀ x, In R x → x.cell? ⟨b', off' + k * 3 + 1, none⟩ = some (.int .i64 (mv ys k).old) := fun x hx => k1' k x hlt (hRb x hx)
        have x2' : ∀ x, In R x → x.cell? ⟨b', off' + k * 3 + 2, none⟩ = some (.int .i64 (mv ys k).new) := fun x hx => k2' k x hlt (hRb x hx)
        clear hc hc' k0 k1 k0' k1' k2 k2'
        have hi1 : (0 : Int) ≤ (k : Int) := by omega
        have hi2 : (k : Int) < (n : Int) := by omega
        have hneq := run_neq_mv (mv xs k) (mv ys k)
        cases he : sameMv (mv xs k) (mv ys k)
        · rw [he] at hneq
          have Hq := Lib.hid (sameMvs_at (xs := xs) (ys := ys) (k := k) (by rw [← HN.out]; exact hlt) he); clear he
          go_wp2_with fail
          go_quiet (fail)
          go_wp2
          go_ret
          exact ⟨by rw [Hq.out]; rfl, hRb _ (hRn _ _ hRw)⟩
        · rw [he] at hneq
          have He := Lib.hid he; clear he
          go_wp2_with fail
          go_quiet (fail)
          go_wp2
          go_roundw
          case rel => exact ⟨k + 1, by omega, by go_num, all_next Hs.out He.out, hRn _ _ hRw⟩
          case measure => simp [intOf]; omega
      · have Hk := Lib.hid (show sameMvs xs ys = true from Hall.out (fun j hj => Hs.out j (by have := HN.out; omega)))
        go_wp2
        go_ret
        exact ⟨by rw [Hk.out]; rfl, hRb _ hRw⟩
  · have Hl := Lib.hid (sameMvs_len (xs := xs) (ys := ys) (by rw [← HN.out, ← HN'.out]; exact hl))
    go_enter Tryz.func90, Tryz.ntmps90
    go_wp2
    go_ret
    exact ⟨by rw [Hl.out]; rfl, hRb _ hR1⟩
end Go.Proofs.YtdhoodloklgokaaGreatDoor
