/- Plain: the object that a text begins with. No program here. -/
import Derived.Test.YtcppgkhkijejoaaStr
namespace Go.Proofs.Ytcppgkhkijejoaa
open Go.RowKit
set_option linter.unusedVariables false

def rawN (s : ByteArray) : Nat := (byt s 2).toNat
def rawM (s : ByteArray) : Nat := (byt s (3 + rawN s)).toNat
def rawOk (s : ByteArray) : Prop := 3 ≤ s.size ∧ 4 + rawN s ≤ s.size ∧ 4 + rawN s + rawM s ≤ s.size
def rawLen (s : ByteArray) : Nat := 4 + rawN s + rawM s
/-- the first k links -/
def rawTo (s : ByteArray) (k : Nat) : List Int := (List.range k).map fun i => byt s (3 + i)
def rawObj (s : ByteArray) : Obj := ⟨byt s 0, byt s 1, rawTo s (rawN s), sub s (4 + rawN s) (rawM s)⟩

theorem rawTo_length (s : ByteArray) (k : Nat) : (rawTo s k).length = k := by simp [rawTo]
theorem rawTo_next (s : ByteArray) (k : Nat) : rawTo s (k + 1) = rawTo s k ++ [byt s (3 + k)] := by simp [rawTo, List.range_succ]
theorem rawTo_nth {s : ByteArray} {k i : Nat} (h : i < k) : nth (rawTo s k) i = byt s (3 + i) := by
  rw [nth_lt (by rw [rawTo_length]; exact h)]; simp [rawTo]
theorem rawTo_i64 (s : ByteArray) (k : Nat) : ∀ x ∈ rawTo s k, I64 x := by
  intro x hx
  simp only [rawTo, List.mem_map] at hx
  obtain ⟨i, _, rfl⟩ := hx
  have := byt_range s (3 + i)
  unfold I64; omega
theorem rawN_le (s : ByteArray) : rawN s ≤ 255 := by have := byt_range s 2; unfold rawN; omega
theorem rawM_le (s : ByteArray) : rawM s ≤ 255 := by have := byt_range s (3 + rawN s); unfold rawM; omega
theorem byt_nat (s : ByteArray) (k : Nat) : ((byt s k).toNat : Int) = byt s k := by have := byt_range s k; omega

theorem block_setCell {w : World} {b j : Nat} {cs : Array Value} {t : TypeId} {fz : Nat × Nat} (h : w.heap[b]? = some (.cells cs t fz)) (v : Value) :
    (w.setCell ⟨b, j, none⟩ v).heap[b]? = some (.cells (cs.setIfInBounds j v) t fz) := by
  simp [World.setCell, Array.getElem?_modify, h]
theorem block_cell {w : World} {b j : Nat} {cs : Array Value} {t : TypeId} {fz : Nat × Nat} (h : w.heap[b]? = some (.cells cs t fz)) {v : Value} (hv : cs[j]? = some v) : w.cell? ⟨b, j, none⟩ = some v := by
  simp [World.cell?, h, hv]
theorem block_free {w : World} {b j : Nat} {cs : Array Value} {t : TypeId} (h : w.heap[b]? = some (.cells cs t (0, 0))) : w.frozen? ⟨b, j, none⟩ = false := by
  simp [World.frozen?, h]
theorem Upd.blk {T : Nat → Prop} {w w' : World} (h : Upd T w w') {b : Nat} {o : Go.Obj} (hb : w.heap[b]? = some o) (hT : ¬ T b) : w'.heap[b]? = some o := by
  rw [h.block b (lt_of_block hb) hT]; exact hb

theorem Upd.of_drew {T : Nat → Prop} {w w' : World} (h : Upd T w.drew w') : Upd T w w' := ⟨h.os, h.tape, h.output, h.size, h.block⟩
theorem own_upd {T : Nat → Prop} {w w' : World} {base : Nat} {e : TypeId} {size : Nat} {v : Value} {n : Nat} {xs : List Value} (h : w.ownsRow base e size v n xs) (hu : Upd T w w') (hT : ∀ g, v.ownBlock = some g → ¬ T g) : w'.ownsRow base e size v n xs := by
  refine ⟨h.1, ?_⟩
  rcases h.2 with h2 | ⟨g, cap, cur, rfl, hg, hh, r⟩
  · exact .inl h2
  · exact .inr ⟨g, cap, cur, rfl, hg, hu.blk hh (hT g rfl), r⟩

end Go.Proofs.Ytcppgkhkijejoaa
