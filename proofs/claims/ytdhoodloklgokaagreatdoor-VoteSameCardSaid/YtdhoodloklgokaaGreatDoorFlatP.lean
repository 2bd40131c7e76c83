
/- FlatP: one element of a flat row is written. No program here. -/
import Derived.Test.YtdhoodloklgokaaGreatDoorInsA
import Derived.Deep.AppendLies
namespace Go.Proofs.YtdhoodloklgokaaGreatDoor
open Go.RowKit
set_option linter.unusedVariables false
set_option linter.unusedSimpArgs false

/-- one element of a flat row is written -/
theorem flat_put {cs : Nat → List Value} {ys : List Value} {sz n i : Nat} (h : ∀ j, j < n → (cs j).length = sz) (hi : i < n) :
    (flat cs n).take (i * sz) ++ ys ++ (flat cs n).drop (i * sz + sz) = flat (fun j => if j = i then ys else cs j) n := by
  obtain ⟨k, rfl⟩ : ∃ k, n = i + (1 + k) := ⟨n - i - 1, by omega⟩
  have hl : (flat cs i).length = i * sz := flat_length fun j hj => h j (by omega)
  have hl2 : (flat cs i ++ cs i).length = i * sz + sz := by rw [List.length_append, hl, h i (by omega)]
  have e1 : flat cs (i + (1 + k)) = flat cs i ++ (cs i ++ flat (fun j => cs (i + (1 + j))) k) := by rw [flat_add, flat_one]; rfl
  rw [e1, show (flat cs i ++ (cs i ++ flat (fun j => cs (i + (1 + j))) k)).take (i * sz) = flat cs i by rw [← hl, List.take_left]]
  rw [← List.append_assoc (flat cs i), ← hl2, List.drop_left]
  rw [flat_add, flat_one]
  have e2 : flat (fun j => if j = i then ys else cs j) i = flat cs i := flat_congr fun j hj => by rw [if_neg (by omega)]
  have e3 : flat (fun j => (fun j => if i + j = i then ys else cs (i + j)) (1 + j)) k = flat (fun j => cs (i + (1 + j))) k := flat_congr fun j hj => by
    show (if i + (1 + j) = i then ys else cs (i + (1 + j))) = cs (i + (1 + j))
    rw [if_neg (by omega)]
  rw [e2, e3]
  simp
theorem take_put {α : Type} {A ys : List α} {a m n : Nat} (hy : ys.length = m) (h : a + m ≤ n) (hn : n ≤ A.length) : (A.take a ++ ys ++ A.drop (a + m)).take n = (A.take n).take a ++ ys ++ (A.take n).drop (a + m) := by
  obtain ⟨k, rfl⟩ : ∃ k, n = a + m + k := ⟨n - a - m, by omega⟩
  have h1 : (A.take a ++ ys).length = a + m := by rw [List.length_append, List.length_take, hy]; omega
  have e1 : (A.take a ++ ys ++ A.drop (a + m)).take (a + m + k) = A.take a ++ ys ++ (A.drop (a + m)).take k := by
    rw [← h1, List.take_length_add_append]
  rw [e1, List.take_take, Nat.min_eq_left (by omega), List.drop_take, show a + m + k - (a + m) = k by omega]
end Go.Proofs.YtdhoodloklgokaaGreatDoor
