/- Bytes: what encoding makes. No program here. -/
import Derived.Test.YtcppgkhkijejoaaPure
import Derived.Laws.BytesArg
import Derived.Lib.AppendStr
import Derived.Lib.QuietBelow
namespace Go.Proofs.Ytcppgkhkijejoaa
open Go.RowKit
set_option linter.unusedVariables false
set_option linter.unusedSimpArgs false

def b8 (n : Int) : Int := n % 256
theorem b8_wrap (n : Int) : IntKind.u8.wrap n = b8 n := IntKind.wrap_u8' n
theorem b8_in {n : Int} (h0 : 0 ≤ n) (h : n ≤ 255) : b8 n = n := by unfold b8; omega

/-- a string's bytes, as numbers -/
def strN (s : ByteArray) : List Int := s.data.toList.map fun c => (c.toNat : Int)
theorem strN_length (s : ByteArray) : (strN s).length = s.size := by rw [strN, List.length_map]; rfl

theorem str_strN (s : ByteArray) : strOfNums (strN s) = s := by
  have : ((strN s).map fun n => UInt8.ofNat n.toNat) = s.data.toList := by
    unfold strN; rw [List.map_map]
    conv => rhs; rw [← List.map_id s.data.toList]
    apply List.map_congr_left
    intro c _; simp
  show (⟨((strN s).map fun n => UInt8.ofNat n.toNat).toArray⟩ : ByteArray) = s
  rw [this]

theorem str_append (a b : List Int) : strOfNums a ++ strOfNums b = strOfNums (a ++ b) := by
  have := ByteArray.mk_append_mk (a.map fun n => UInt8.ofNat n.toNat) (b.map fun n => UInt8.ofNat n.toNat)
  simp only [strOfNums, List.map_append]; exact this

theorem strCells_strN (s : ByteArray) : Lib.strCells s = (strN s).map (Value.int .u8) := by
  simp [Lib.strCells, strN]

theorem str_empty : strOfNums [] = ByteArray.empty := rfl

def encN (o : Obj) : List Int := [b8 o.id, b8 o.kind, b8 o.links.length] ++ o.links.map b8 ++ [b8 o.text.size] ++ strN o.text
/-- A2: an object's bytes -/
def encB (o : Obj) : ByteArray := strOfNums (encN o)

theorem encN_length (o : Obj) : (encN o).length = 4 + o.links.length + o.text.size := by simp [encN, strN_length]; omega
theorem encB_size (o : Obj) : (encB o).size = 4 + o.links.length + o.text.size := by rw [encB, strOfNums_size, encN_length]

/-- the bytes ys, and the first k numbers of xs behind them -/
def putTo (ys : List Value) (xs : List Int) (k : Nat) : List Value := ys ++ (xs.take k).map fun x => .int .u8 (b8 x)
theorem putTo_zero (ys : List Value) (xs : List Int) : putTo ys xs 0 = ys := by simp [putTo]
theorem putTo_next {ys : List Value} {xs : List Int} {k : Nat} (h : k < xs.length) : putTo ys xs k ++ [.int .u8 (b8 (nth xs k))] = putTo ys xs (k + 1) := by
  unfold putTo; rw [List.take_succ_eq_append_getElem h, List.map_append, nth_lt h, List.append_assoc]; rfl
theorem putTo_all (ys : List Value) (xs : List Int) : putTo ys xs xs.length = ys ++ xs.map fun x => .int .u8 (b8 x) := by simp [putTo]

theorem one_byte {W : World} {b : Nat} {n : Int} (h : W.cell? ⟨b, 0, none⟩ = some (.int .u8 n)) : ∀ i, i < 1 → W.cell? ⟨b, 0 + i, none⟩ = some (.int .u8 ([n].getD i 0)) := by
  intro i hi
  have h0 : i = 0 := by omega
  subst h0; exact h

theorem checkObj_ok {o : Obj} (h : checkObj o = 0) : (1 ≤ o.id ∧ o.id ≤ 99) ∧ (1 ≤ o.kind ∧ o.kind ≤ 3) ∧ o.links.length ≤ 4 ∧ o.text.size ≤ 8 ∧ linksErr o = 0 := by
  unfold checkObj at h
  cases h1 : within o.id 1 99 <;> simp [h1] at h
  cases h2 : within o.kind 1 3 <;> simp [h2] at h
  by_cases h3 : 4 < o.links.length ∨ 8 < o.text.size
  · simp [h3] at h
  · simp only [h3, if_false] at h
    exact ⟨within_true h1, within_true h2, by omega, by omega, h⟩

theorem encN_cells (o : Obj) (n : Nat) (hn : n = o.links.length) : Value.int IntKind.u8 (b8 o.id) :: Value.int IntKind.u8 (b8 o.kind) :: Value.int IntKind.u8 (b8 (n : Int)) ::
    (List.map (fun x => Value.int IntKind.u8 (b8 x)) o.links ++ Value.int IntKind.u8 (b8 (o.text.size : Int)) :: Lib.strCells o.text) = (encN o).map (Value.int .u8) := by
  subst hn
  rw [strCells_strN]
  simp [encN]

/-- what stands ahead of link k -/
def encTo (o : Obj) (k : Nat) : List Int := [b8 o.id, b8 o.kind, b8 o.links.length] ++ (o.links.take k).map b8
theorem encTo_length {o : Obj} {k : Nat} (h : k ≤ o.links.length) : (encTo o k).length = 3 + k := by simp [encTo]; omega
theorem encTo_next {o : Obj} {k : Nat} (h : k < o.links.length) : encTo o k ++ [b8 (nth o.links k)] = encTo o (k + 1) := by
  unfold encTo; rw [List.take_succ_eq_append_getElem h, List.map_append, nth_lt h, List.append_assoc]; rfl
theorem encTo_end (o : Obj) : encTo o o.links.length ++ [b8 o.text.size] ++ strN o.text = encN o := by simp [encTo, encN]
theorem encTo_zero (o : Obj) : strOfNums [b8 o.id] ++ strOfNums [b8 o.kind] ++ strOfNums [b8 (o.links.length : Int)] = strOfNums (encTo o 0) := by
  rw [str_append, str_append]; rfl

/-- the class of Derived/Lib/QuietBelow.lean -/
theorem cls_grown {w : World} {R : World → Prop} (hR : Cls w R) : ∀ (x : World) (d : Nat) (os : Array Go.Obj), In R x → In R (Go.Sort.grow (redrawn x d) os) :=
  fun x d os h => hR.next x _ h (below_regrown x d os)

end Go.Proofs.Ytcppgkhkijejoaa
