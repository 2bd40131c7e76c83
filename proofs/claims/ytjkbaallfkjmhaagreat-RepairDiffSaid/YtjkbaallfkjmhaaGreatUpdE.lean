
/- Walks: refs moved: Apply; the reference's MovedOf, ApplyOf; whether refs are the same. -/
import Derived.Test.YtjkbaallfkjmhaaGreatUpdD
namespace Go.Proofs.YtjkbaallfkjmhaaGreat
open Go.RowKit
set_option linter.unusedVariables false
set_option linter.unusedSimpArgs false

theorem ret_vi {v : Value} {a b : Int} (h : a = b) : Ending.returned (.tuple #[v, .int .i64 a]) = .returned (.tuple #[v, .int .i64 b]) := by rw [h]

theorem idOf_kind {L : List Rf} {objs : List Obj} (h : ∀ r ∈ L, kindOf objs r.id = 3) {s : ByteArray} (hn : idOf L s ≠ 0) : kindOf objs (idOf L s) = 3 := by
  unfold idOf at hn ⊢
  by_cases hf : findRf L s = -1
  · rw [if_pos hf] at hn; exact absurd rfl hn
  · rw [if_neg hf] at hn ⊢
    obtain ⟨k, hk, e, _⟩ := find_some hf
    rw [e]; exact h _ (rf_mem hk)

def sameRf (a b : Rf) : Bool := (a.name.toList == b.name.toList) && (a.id == b.id)
theorem sameRf_iff (a b : Rf) : sameRf a b = true ↔ a = b := by
  unfold sameRf
  rw [text_eq]
  simp only [Bool.and_eq_true, decide_eq_true_eq, beq_iff_eq]
  constructor
  · rintro ⟨h1, h2⟩; cases a; cases b; simp_all
  · rintro rfl; simp
theorem run_neq_rf (a b : Rf) (w : World) : (binOp .neq 48 (.agg #[.string a.name, .int .i64 a.id]) (.agg #[.string b.name, .int .i64 b.id])).run Tryz.prog w = .ok (.bool !sameRf a b) w := by
  have hS : Tryz.prog.underlying 48 = some (.struct (Tryz.prog.fieldsOf 48)) := by kernel_rfl
  have hp : Tryz.prog.stoodInHeld 48 = false := by kernel_rfl
  have u9 := Tryz.underlying9
  have u3 := Tryz.underlying3
  rw [run_neq_struct, show (10000 : Nat) = 9999 + 1 from rfl, run_equalIn_agg w 9999 48 _ _ hS hp]
  simp only [Program.fieldsOf, Tryz.underlying48]
  unfold sameRf
  go_simp
  by_cases h1 : a.name.toList = b.name.toList <;> by_cases h2 : a.id = b.id <;> simp [h1, h2]

def sameRefs (xs ys : List Rf) : Bool := decide (xs.length = ys.length) && (List.range xs.length).all fun k => sameRf (rf xs k) (rf ys k)
theorem sameRefs_iff (xs ys : List Rf) : sameRefs xs ys = true ↔ xs = ys := by
  unfold sameRefs
  simp only [Bool.and_eq_true, decide_eq_true_eq, List.all_eq_true, List.mem_range, sameRf_iff]
  constructor
  · rintro ⟨h1, h2⟩
    apply List.ext_getElem h1
    intro i hi hi2
    have := h2 i hi
    rwa [rf_lt hi, rf_lt hi2] at this
  · rintro rfl; exact ⟨rfl, fun _ _ => rfl⟩
theorem sameRefs_len {xs ys : List Rf} (h : xs.length ≠ ys.length) : sameRefs xs ys = false := by unfold sameRefs; simp [h]
theorem sameRefs_at {xs ys : List Rf} {k : Nat} (hk : k < xs.length) (h : sameRf (rf xs k) (rf ys k) = false) : sameRefs xs ys = false := by
  cases e : sameRefs xs ys
  · rfl
  · rw [sameRefs_iff] at e
    subst e
    rw [(sameRf_iff _ _).2 rfl] at h; cases h
theorem sameRefs_all {xs ys : List Rf} (hl : xs.length = ys.length) (h : ∀ k, k < xs.length → sameRf (rf xs k) (rf ys k) = true) : sameRefs xs ys = true := by
  unfold sameRefs
  simp only [Bool.and_eq_true, decide_eq_true_eq, List.all_eq_true, List.mem_range]
  exact ⟨hl, h⟩

set_option maxHeartbeats 2000000 in
theorem sameRefs_any (xs ys : List Rf) (v v' : Value) (S S' : Nat → Prop) (w : World) (h1 : RefsV S w v xs) (h2 : RefsV S' w v' ys) :
    Calls Tryz.prog 33 #[v, v'] w fun e w' => e = .returned (.bool (sameRefs xs ys)) ∧ Below w.heap.size w w' := by
  obtain ⟨a, n, cap, HN, rfl, hc1, hc2, hc8, hc, _⟩ := h1.open
  obtain ⟨a', n', cap', HN', rfl, hc1', hc2', hc8', hc', _⟩ := h2.open
  obtain ⟨R, hR, hR1, _⟩ := cls_plain w
  have hRb := hR.below
  have hRn := hR.drewN
  by_cases hl : n = n'
  · subst hl
    have Hall := Lib.hid (sameRefs_all (xs := xs) (ys := ys) (by rw [← HN.out, ← HN'.out]))
    go_enter Tryz.func33, Tryz.ntmps33
    go_wp2
    go_loopw [5] (fun i wr => ∃ k : Nat, k ≤ n ∧ i = .int .i64 k ∧ Hid (∀ j, j < k → sameRf (rf xs j) (rf ys j) = true) ∧ In R wr) (fun i _ => n - (intOf i).toNat)
    case atStart => exact ⟨0, by omega, rfl, fun j hj => absurd hj (by omega), hR1⟩
    case round =>
      obtain ⟨k, hk, rfl, Hs, hRw⟩ := hrel
      clear hR1
      by_cases hlt : k < n
      · obtain ⟨b, off, rfl, hb, k0, k1⟩ := hc (by omega)
        obtain ⟨b', off', rfl, hb', k0', k1'⟩ := hc' (by omega)
        have x0 : ∀ x, In R x → x.cell? ⟨b, off + k * 2, none⟩ = some (.string (rf xs k).name) := fun x hx => k0 k x hlt (hRb x hx)
        have x1 : ∀ x, In R x → x.cell? ⟨b, off + k * 2 + 1, none⟩ = some (.int .i64 (rf xs k).id) := fun x hx => k1 k x hlt (hRb x hx)
        have x0' : ∀ x, In R x → x.cell? ⟨b', off' + k * 2, none⟩ = some (.string (rf ys k).name) := fun x hx => k0' k x hlt (hRb x hx)
        have x1' : ∀ x, In R x → x.cell? ⟨b', off' + k * 2 + 1, none⟩ = some (.int .i64 (rf ys k).id) := fun x hx => k1' k x hlt (hRb x hx)
        clear hc hc' k0 k1 k0' k1'
        have hi1 : (0 : Int) ≤ (k : Int) := by omega
        have hi2 : (k : Int) < (n : Int) := by omega
        have hneq := run_neq_rf (rf xs k) (rf ys k)
        cases he : sameRf (rf xs k) (rf ys k)
        · rw [he] at hneq
          have Hq := Lib.hid (sameRefs_at (xs := xs) (ys := ys) (k := k) (by rw [← HN.out]; exact hlt) he); clear he
          go_wp2_with fail
          go_quiet (fail)
          go_wp2
          go_ret
          exact ⟨by rw [Hq.out]; rfl, hRb _ (hRn _ _ hRw)⟩
        · rw [he] at hneq
          have He := Lib.hid he; clear he
          go_wp2_with fail
          go_quiet (fail)
          go_wp2
          go_roundw
          case rel => exact ⟨k + 1, by omega, by go_num, all_next Hs.out He.out, hRn _ _ hRw⟩
          case measure => simp [intOf]; omega
      · have Hk := Lib.hid (show sameRefs xs ys = true from Hall.out (fun j hj => Hs.out j (by have := HN.out; omega)))
        go_wp2
        go_ret
        exact ⟨by rw [Hk.out]; rfl, hRb _ hRw⟩
  · have Hl := Lib.hid (sameRefs_len (xs := xs) (ys := ys) (by rw [← HN.out, ← HN'.out]; exact hl))
    go_enter Tryz.func33, Tryz.ntmps33
    go_wp2
    go_ret
    exact ⟨by rw [Hl.out]; rfl, hRb _ hR1⟩

/-- are refs what they must be beside an errno? -/
def refsAreB (l : List Rf) (e c : Int) (want : List Rf) : Bool := (e == c) && sameRefs l (if c = 0 then want else [])
end Go.Proofs.YtjkbaallfkjmhaaGreat
