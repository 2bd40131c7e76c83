/- Plain: a text that is read from its beginning on. No program here. -/
import Derived.Test.YtcppgkhkijejoaaSame
import Derived.Test.YtcppgkhkijejoaaRep2
import Derived.Laws.Strings3
import Derived.Lib.Strings
namespace Go.Proofs.Ytcppgkhkijejoaa
open Go.RowKit
set_option linter.unusedVariables false

def rest (s : ByteArray) (k : Nat) : ByteArray := s.extract k s.size
def sub (s : ByteArray) (k n : Nat) : ByteArray := s.extract k (k + n)
def byt (s : ByteArray) (k : Nat) : Int := ((s.data.toList.getD k 0).toNat : Int)

theorem byt_range (s : ByteArray) (k : Nat) : 0 ≤ byt s k ∧ byt s k ≤ 255 := by
  unfold byt
  have := (s.data.toList.getD k 0).toNat_lt
  omega
theorem rest_size {s : ByteArray} {k : Nat} (h : k ≤ s.size) : (rest s k).size = s.size - k := by simp [rest, ByteArray.size_extract]
theorem sub_size {s : ByteArray} {k n : Nat} (h : k + n ≤ s.size) : (sub s k n).size = n := by simp [sub, ByteArray.size_extract]; omega
theorem rest_zero (s : ByteArray) : rest s 0 = s := by simp [rest]
theorem rest_head {s : ByteArray} {k n : Nat} (h : k + n ≤ s.size) : (rest s k).extract 0 n = sub s k n := by
  unfold rest sub
  rw [ByteArray.extract_extract]
  congr 1
  all_goals omega
theorem rest_tail {s : ByteArray} {k n : Nat} (h : k + n ≤ s.size) : (rest s k).extract n (rest s k).size = rest s (k + n) := by
  rw [rest_size (by omega)]
  unfold rest
  rw [ByteArray.extract_extract]
  congr 1
  all_goals omega

theorem byt_get {s : ByteArray} {k : Nat} (h : k < s.size) : ((s[k]'h).toNat : Int) = byt s k := by
  unfold byt
  have h' : k < s.data.toList.length := by simpa using h
  rw [List.getD_eq_getElem?_getD, List.getElem?_eq_getElem h']
  rfl

theorem byt_sub {s : ByteArray} {k n i : Nat} (h : k + n ≤ s.size) (hi : i < n) : byt (sub s k n) i = byt s (k + i) := by
  unfold byt sub
  rw [Lib.extract_data]
  congr 2
  rw [List.getD_eq_getElem?_getD, List.getD_eq_getElem?_getD, List.getElem?_take, List.getElem?_drop]
  rw [if_pos (by omega)]

theorem index_sub {P : Program} (t : TypeId) (h : P.underlying t = some .string) {s : ByteArray} {k n : Nat} (hk : k + n ≤ s.size) (i : Int) (hi : 0 ≤ i ∧ i < n) (w : World) :
    (Instr.index t (.string (sub s k n)) (.int .i64 i)).run P w = .ok (.int .u8 (byt s (k + i.toNat))) w := by
  have hs := sub_size hk
  rw [run_index_string w t _ _ i h]
  have hb := byt_sub (i := i.toNat) hk (by omega)
  rw [dif_pos (by omega), byt_get, hb]

end Go.Proofs.Ytcppgkhkijejoaa
