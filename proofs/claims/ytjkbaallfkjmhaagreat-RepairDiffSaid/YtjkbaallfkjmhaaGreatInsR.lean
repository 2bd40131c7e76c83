
/- InsR: slices.Insert of one ref into a row of the call's own. -/
import Derived.Test.YtjkbaallfkjmhaaGreatInsA
namespace Go.Proofs.YtjkbaallfkjmhaaGreat
open Go.RowKit
set_option linter.unusedVariables false
set_option linter.unusedSimpArgs false

theorem Tryz.infoRef : (Tryz.prog.info? 48).map (fun i => (i.zero, i.size, i.bytes)) = some (some (.agg #[.string ⟨#[]⟩, .int .i64 0]), 2, 24) := by kernel_rfl

/-- what a block holds, where another one is laid beside it -/
def put2 (xs ys : List Value) (i : Nat) : List Value := xs.take (i * 2) ++ ys ++ xs.drop (i * 2)

theorem put2_room {xs ys A : List Value} {i n : Nat} (hx : xs.length = n * 2) (hA : A.take (n * 2) = xs) (hy : ys.length = 2) (hi : i < n) (hAl : (n + 1) * 2 ≤ A.length) {C : List Value}
    (hC : C = A.take ((i + 1) * 2) ++ xs.drop (i * 2) ++ A.drop ((i + 1) * 2 + (xs.drop (i * 2)).length)) :
    (C.take (i * 2) ++ ys ++ C.drop (i * 2 + ys.length)).take ((n + 1) * 2) = put2 xs ys i ∧ C.length = A.length ∧ (C.take (i * 2) ++ ys ++ C.drop (i * 2 + ys.length)).length = A.length := by
  have e1 : (A.take ((i + 1) * 2)).length = (i + 1) * 2 := by rw [List.length_take]; omega
  have e2 : (xs.drop (i * 2)).length = (n - i) * 2 := by rw [List.length_drop, hx]; omega
  have hCl : C.length = A.length := by subst hC; rw [List.length_append, List.length_append, e1, e2, List.length_drop]; omega
  have t1 : C.take (i * 2) = xs.take (i * 2) := by
    subst hC
    rw [List.append_assoc, List.take_append_of_le_length (by omega), List.take_take, ← hA, List.take_take]
    congr 1; omega
  have d1 : C.drop (i * 2 + ys.length) = xs.drop (i * 2) ++ A.drop ((i + 1) * 2 + (xs.drop (i * 2)).length) := by
    subst hC
    rw [hy, show i * 2 + 2 = (A.take ((i + 1) * 2)).length by omega, List.append_assoc, List.drop_left]
  refine ⟨?_, hCl, ?_⟩
  · rw [t1, d1, ← List.append_assoc]
    have hl : (xs.take (i * 2) ++ ys ++ xs.drop (i * 2)).length = (n + 1) * 2 := by
      rw [List.length_append, List.length_append, List.length_take, e2, hy, hx]; omega
    rw [← hl, List.take_left]; rfl
  · rw [List.length_append, List.length_append, List.length_take, List.length_drop, hCl, hy]; omega

theorem put2_grow {xs ys A C : List Value} {i n : Nat} (hx : xs.length = n * 2) (hA : A.take (i * 2) = xs.take (i * 2)) (hy : ys.length = 2) (hi : i < n) (hAl : (n + 1) * 2 ≤ A.length)
    (hC : C = A.take (i * 2) ++ ys ++ A.drop (i * 2 + ys.length)) :
    (C.take ((i + 1) * 2) ++ xs.drop (i * 2) ++ C.drop ((i + 1) * 2 + (xs.drop (i * 2)).length)).take ((n + 1) * 2) = put2 xs ys i ∧ C.length = A.length ∧ (C.take ((i + 1) * 2) ++ xs.drop (i * 2) ++ C.drop ((i + 1) * 2 + (xs.drop (i * 2)).length)).length = A.length := by
  have e1 : (A.take (i * 2)).length = i * 2 := by rw [List.length_take]; omega
  have e2 : (xs.drop (i * 2)).length = (n - i) * 2 := by rw [List.length_drop, hx]; omega
  have hCl : C.length = A.length := by subst hC; rw [List.length_append, List.length_append, e1, hy, List.length_drop]; omega
  have t1 : C.take ((i + 1) * 2) = xs.take (i * 2) ++ ys := by
    have : (i + 1) * 2 = (A.take (i * 2) ++ ys).length := by rw [List.length_append, e1, hy]; omega
    rw [this, hC, List.take_left, hA]
  refine ⟨?_, hCl, ?_⟩
  · rw [t1]
    have hl : (xs.take (i * 2) ++ ys ++ xs.drop (i * 2)).length = (n + 1) * 2 := by
      rw [List.length_append, List.length_append, List.length_take, e2, hy, hx]; omega
    rw [← hl, List.take_left]; rfl
  · rw [List.length_append, List.length_append, List.length_take, e2, List.length_drop, hCl]; omega

def InsResR (w : World) (B n : Nat) (v : Value) (zs : List Value) (e : Ending) (w' : World) : Prop :=
  ∃ v', e = .returned v' ∧ w'.ownsRow B 48 2 v' (n + 1) zs ∧ w.grownBy w' v.ownBlock ∧ (v'.ownBlock = v.ownBlock ∨ ∃ k, v'.ownBlock = some k ∧ w.heap.size ≤ k)

theorem sizeRef (w : World) : (sizeOf 48).run Tryz.prog w = .ok 2 w := by
  obtain ⟨i0, hi0, hz0, hz1, hz2⟩ := info_parts Tryz.infoRef
  simp [sizeOf, typeInfo, hi0, hz1]

theorem put2_flat {f g : Nat → List Value} {n i : Nat} {ys : List Value} (hf : ∀ j, j < n → (f j).length = 2) (hi : i ≤ n) (h1 : ∀ j, j < i → g j = f j) (h2 : g i = ys) (h3 : ∀ j, i ≤ j → j < n → g (j + 1) = f j) :
    put2 (flat f n) ys i = flat g (n + 1) := by
  obtain ⟨k, rfl⟩ : ∃ k, n = i + k := ⟨n - i, by omega⟩
  have hl : (flat f i).length = i * 2 := flat_length fun j hj => hf j (by omega)
  unfold put2
  rw [flat_add f i k, ← hl, List.take_left, List.drop_left, show i + k + 1 = i + (1 + k) by omega, flat_add g i (1 + k), flat_one, List.append_assoc]
  congr 1
  · exact flat_congr fun j hj => (h1 j hj).symm
  · simp only [Nat.add_zero]
    rw [h2]
    congr 1
    refine flat_congr fun j hj => ?_
    rw [show i + (1 + j) = (i + j) + 1 by omega, h3 (i + j) (by omega) (by omega)]

end Go.Proofs.YtjkbaallfkjmhaaGreat
