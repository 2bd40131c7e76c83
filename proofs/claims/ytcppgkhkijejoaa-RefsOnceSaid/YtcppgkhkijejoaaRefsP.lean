/- The plain law: names and refs. No program here. -/
import Derived.Test.YtcppgkhkijejoaaStoreP
import Derived.Test.YtcppgkhkijejoaaStr
namespace Go.Proofs.Ytcppgkhkijejoaa
open Go.RowKit
set_option linter.unusedVariables false
set_option linter.unusedSimpArgs false

structure Rf where
  name : ByteArray
  id : Int
def rf0 : Rf := ⟨ByteArray.empty, 0⟩
def rf (l : List Rf) (i : Nat) : Rf := at_ rf0 l i
theorem rf_lt {l : List Rf} {i : Nat} (h : i < l.length) : rf l i = l[i] := at_lt h

/-- a []api.Ref -/
def RefsV (S : Nat → Prop) (w : World) (v : Value) (l : List Rf) : Prop :=
  Sl S w v 2 24 l.length (fun i => [.string (rf l i).name, .int .i64 (rf l i).id]) ∧ ∀ r ∈ l, I64 r.id ∧ r.name.size ≤ 140737488351232

theorem RefsV.below {S : Nat → Prop} {w w' : World} {v : Value} {l : List Rf} (h : RefsV S w v l) (hb : Below w.heap.size w w') : RefsV S w' v l := ⟨h.1.below hb, h.2⟩
theorem RefsV.weaken {S S' : Nat → Prop} {w : World} {v : Value} {l : List Rf} (h : RefsV S w v l) (hs : ∀ b, S b → S' b) : RefsV S' w v l := ⟨h.1.weaken hs, h.2⟩
theorem RefsV.same {S : Nat → Prop} {w w' : World} {v : Value} {l : List Rf} (h : RefsV S w v l) (hs : SameOn S w w') : RefsV S w' v l := ⟨h.1.same hs, h.2⟩
theorem RefsV.nil (S : Nat → Prop) (w : World) (cap : Nat) (a : Option Addr) (h : cap ≤ 9223372036854775807) : RefsV S w (.slice a 0 cap) [] :=
  ⟨⟨a, cap, rfl, Nat.zero_le _, h, by simp, fun h => absurd h (by simp)⟩, fun x hx => by cases hx⟩
theorem RefsV.shape {S : Nat → Prop} {w : World} {v : Value} {l : List Rf} (h : RefsV S w v l) : ∃ p : Option Addr × Nat, v = .slice p.1 l.length p.2 :=
  let ⟨a, cap, hv, _⟩ := h.1; ⟨(a, cap), hv⟩
theorem RefsV.each {S : Nat → Prop} {w : World} {v : Value} {l : List Rf} (h : RefsV S w v l) {i : Nat} (hi : i < l.length) : I64 (rf l i).id ∧ (rf l i).name.size ≤ 140737488351232 := h.2 _ (at_mem hi)

/-- opened for a walk -/
theorem RefsV.open {S : Nat → Prop} {w : World} {v : Value} {l : List Rf} (h : RefsV S w v l) :
    ∃ a n cap, Hid (n = l.length) ∧ v = .slice a n cap ∧ n ≤ cap ∧ cap ≤ 9223372036854775807 ∧ n * 24 ≤ 140737488351232 ∧
      (0 < n → ∃ b off, a = some ⟨b, off, none⟩ ∧ S b ∧
        (∀ i x, i < n → Below w.heap.size w x → x.cell? ⟨b, off + i * 2, none⟩ = some (.string (rf l i).name)) ∧
        (∀ i x, i < n → Below w.heap.size w x → x.cell? ⟨b, off + i * 2 + 1, none⟩ = some (.int .i64 (rf l i).id))) ∧
      (∀ i, i < n → I64 (rf l i).id ∧ (rf l i).name.size ≤ 140737488351232) := by
  have he := fun i (hi : i < l.length) => h.each hi
  obtain ⟨⟨a, cap, hv, h1, h2, h3, h4⟩, h5⟩ := h
  refine ⟨a, l.length, cap, rfl, hv, h1, h2, h3, fun hn => ?_, he⟩
  obtain ⟨b, off, ha, hS, hc⟩ := h4 hn
  refine ⟨b, off, ha, hS, fun i x hi hb => ?_, fun i x hi hb => ?_⟩
  · have := below_cell hb (hc i hi 0 _ rfl); simpa using this
  · exact below_cell hb (hc i hi 1 _ rfl)

def signB (c : Int) : Bool := (decide (97 ≤ c) && decide (c ≤ 122)) || (decide (48 ≤ c) && decide (c ≤ 57)) || (c == 45)
/-- the sign ahead of place i -/
def ahead (s : ByteArray) (i : Nat) : Int := if i = 0 then 47 else byt s (i - 1)
def badAt (s : ByteArray) (i : Nat) : Bool := !signB (byt s i) && (byt s i != 47 || ahead s i == 47)
/-- D1: what is wrong with a name -/
def nameErr (s : ByteArray) : Int :=
  if 12 < s.size then 2
  else if scan (fun i => if badAt s i then 1 else 0) s.size ≠ 0 then 1
  else if ahead s s.size = 47 then 1 else 0

theorem ahead_next (s : ByteArray) (i : Nat) : ahead s (i + 1) = byt s i := by simp [ahead]
theorem nameErr_many {s : ByteArray} (h : 12 < s.size) : nameErr s = 2 := by unfold nameErr; rw [if_pos h]
theorem scan_ne {f : Nat → Int} {k n : Nat} (hk : k < n) (hf : f k ≠ 0) : scan f n ≠ 0 := fun h => hf (scan_zero h k hk)
theorem nameErr_bad {s : ByteArray} {i : Nat} (h : s.size ≤ 12) (hi : i < s.size) (hb : badAt s i = true) : nameErr s = 1 := by
  unfold nameErr; rw [if_neg (by omega), if_pos (scan_ne hi (by simp [hb]))]
theorem nameErr_slash {s : ByteArray} (h : s.size ≤ 12) (ha : ahead s s.size = 47) : nameErr s = 1 := by
  unfold nameErr; rw [if_neg (by omega)]; split
  · rfl
  · rfl
theorem nameErr_ok {s : ByteArray} (h : s.size ≤ 12) (hb : ∀ i, i < s.size → badAt s i = false) (ha : ahead s s.size ≠ 47) : nameErr s = 0 := by
  unfold nameErr; rw [if_neg (by omega), if_neg, if_neg ha]
  simp only [ne_eq, Decidable.not_not]
  exact scan_of_zero fun i hi => by simp [hb i hi]

/-- the same, as the document's answer asks -/
def badAt' (s : ByteArray) (i : Nat) : Bool :=
  (!within (byt s i) 97 122 && !within (byt s i) 48 57 && byt s i != 45 && byt s i != 47) || (byt s i == 47 && byt s (i - 1) == 47)

theorem badAt_same {s : ByteArray} {i : Nat} (h : i = 0 → byt s 0 ≠ 47) : badAt' s i = badAt s i := by
  unfold badAt badAt' signB within ahead
  by_cases h0 : i = 0
  · subst h0
    have := h rfl
    rw [Bool.eq_iff_iff]; simp; omega
  · rw [Bool.eq_iff_iff]; simp [h0]; omega

theorem bad_slash0 {s : ByteArray} (h : byt s 0 = 47) : badAt s 0 = true := by
  unfold badAt signB ahead; simp [h]

theorem less_total (x y : List UInt8) : (Op.bytesLess x y || x == y) = !Op.bytesLess y x := by
  induction x generalizing y with
  | nil => cases y <;> simp [Op.bytesLess]
  | cons a x ih =>
    cases y with
    | nil => simp [Op.bytesLess]
    | cons b y =>
      have := ih y
      simp only [Op.bytesLess, List.cons_beq_cons]
      by_cases h1 : a < b
      · have h2 : ¬ b < a := by simp only [UInt8.lt_iff_toNat_lt] at *; omega
        have h3 : (b == a) = false := by
          rw [beq_eq_false_iff_ne]; intro e; subst e; exact h2 h1
        simp [h1, h2, h3]
      · by_cases h2 : b < a
        · have h3 : (a == b) = false := by
            rw [beq_eq_false_iff_ne]; intro e; subst e; exact h1 h2
          simp [h1, h2, h3]
        · have h3 : a = b := by
            apply UInt8.toNat_inj.1
            simp only [UInt8.lt_iff_toNat_lt] at *; omega
          subst h3
          simp [h1, this]

def strLt (a b : ByteArray) : Bool := Op.bytesLess a.toList b.toList
theorem strLe (a b : ByteArray) : (Op.bytesLess a.toList b.toList || a.toList == b.toList) = !strLt b a := less_total _ _

/-- is a name a place in another one? -/
def inPlace (a b : ByteArray) : Bool := decide (a.size < b.size) && ((b.extract 0 a.size).toList == a.toList) && (byt b a.size == 47)

theorem prefix_slash (a b : ByteArray) : (decide ((a ++ ⟨#[47]⟩).size ≤ b.size) && ((b.extract 0 (a ++ ⟨#[47]⟩ : ByteArray).size).toList == (a ++ ⟨#[47]⟩ : ByteArray).toList)) = inPlace a b := by
  have hsz : (a ++ ⟨#[47]⟩ : ByteArray).size = a.size + 1 := by rw [ByteArray.size_append]; rfl
  unfold inPlace
  rw [hsz]
  by_cases h : a.size < b.size
  · have h1 : a.size + 1 ≤ b.size := h
    simp only [h, h1, decide_true, Bool.true_and]
    rw [Bool.eq_iff_iff]
    simp only [Bool.and_eq_true, beq_iff_eq]
    rw [ByteArray.toList_eq, ByteArray.toList_eq, ByteArray.toList_eq, ByteArray.toList_eq]
    have e1 : (b.extract 0 (a.size + 1)).data.toList = b.data.toList.take (a.size + 1) := by rw [Lib.extract_data]; simp
    have e2 : (b.extract 0 a.size).data.toList = b.data.toList.take a.size := by rw [Lib.extract_data]; simp
    have e3 : (a ++ ⟨#[47]⟩ : ByteArray).data.toList = a.data.toList ++ [47] := by simp
    have hb : a.size < b.data.toList.length := by simpa using h
    have hal : a.data.toList.length = a.size := by simp
    rw [e1, e2, e3, List.take_succ_eq_append_getElem hb]
    have hby : byt b a.size = 47 ↔ b.data.toList[a.size] = 47 := by
      unfold byt
      rw [List.getD_eq_getElem?_getD, List.getElem?_eq_getElem hb]
      simp only [Option.getD_some]
      constructor
      · intro e; apply UInt8.toNat_inj.1; have : (47 : UInt8).toNat = 47 := rfl; omega
      · intro e; rw [e]; rfl
    rw [hby]
    constructor
    · intro e
      have := List.append_inj e (by simp at hb ⊢; omega)
      exact ⟨this.1, by simpa using this.2⟩
    · rintro ⟨e, f⟩; rw [e, f]
  · have h1 : ¬ a.size + 1 ≤ b.size := by omega
    simp [h, h1]

/-- the place of a name, or -1 -/
def findRf (l : List Rf) (s : ByteArray) : Int := match l.findIdx? (fun r => r.name.toList == s.toList) with | some i => (i : Int) | none => -1
theorem findRf_hit {l : List Rf} {s : ByteArray} {k : Nat} (h : ∀ j, j < k → ((rf l j).name.toList == s.toList) = false) (hk : k < l.length) (he : ((rf l k).name.toList == s.toList) = true) : findRf l s = k := by
  unfold findRf
  have : l.findIdx? (fun r => r.name.toList == s.toList) = some k := by
    rw [List.findIdx?_eq_some_iff_getElem]
    refine ⟨hk, by rw [← rf_lt hk]; exact he, fun j hj => ?_⟩
    have := h j hj
    rw [rf_lt (by omega)] at this
    simp [this]
  rw [this]
theorem findRf_none {l : List Rf} {s : ByteArray} (h : ∀ j, j < l.length → ((rf l j).name.toList == s.toList) = false) : findRf l s = -1 := by
  unfold findRf
  have : l.findIdx? (fun r => r.name.toList == s.toList) = none := by
    rw [List.findIdx?_eq_none_iff]
    intro x hx
    obtain ⟨i, hi, rfl⟩ := List.getElem_of_mem hx
    have := h i hi
    rwa [rf_lt hi] at this
  rw [this]
theorem findRf_cases (l : List Rf) (s : ByteArray) : findRf l s = -1 ∨ ∃ k, k < l.length ∧ findRf l s = (k : Int) ∧ (rf l k).name = s := by
  unfold findRf
  cases h : l.findIdx? (fun r => r.name.toList == s.toList) with
  | none => exact .inl rfl
  | some k =>
    rw [List.findIdx?_eq_some_iff_getElem] at h
    obtain ⟨hk, he, _⟩ := h
    refine .inr ⟨k, hk, rfl, ?_⟩
    rw [rf_lt hk]
    rw [text_eq] at he
    simpa using he

/-- D1: an id that must be a commit's -/
def commitErr (objs : List Obj) (id : Int) : Int := if kindOf objs id = 0 then 5 else if kindOf objs id = 3 then 0 else 7
/-- what is wrong with ref i -/
def refErr (l : List Rf) (objs : List Obj) (i : Nat) : Int :=
  if nameErr (rf l i).name ≠ 0 then nameErr (rf l i).name
  else if 0 < i ∧ strLt (rf l (i - 1)).name (rf l i).name = false then 4
  else commitErr objs (rf l i).id
def pairErr (l : List Rf) (i k : Nat) : Int := if inPlace (rf l i).name (rf l k).name then 6 else 0
def rightErr (l : List Rf) (objs : List Obj) : Int :=
  if 8 < l.length then 2
  else if scan (refErr l objs) l.length ≠ 0 then scan (refErr l objs) l.length
  else scan (fun i => scan (pairErr l i) l.length) l.length
def checkRefs (l : List Rf) (objs : List Obj) : Int := if checkStore objs ≠ 0 then checkStore objs else rightErr l objs

theorem rightErr_ref {l : List Rf} {objs : List Obj} {i : Nat} {e : Int} (hn : l.length ≤ 8) (h0 : scan (refErr l objs) i = 0) (hi : i < l.length) (he : refErr l objs i = e) (hne : e ≠ 0) : rightErr l objs = e := by
  have := scan_hit h0 (by rw [he]; exact hne) hi
  unfold rightErr; rw [if_neg (by omega), this, he, if_pos hne]
theorem rightErr_pair {l : List Rf} {objs : List Obj} {i k : Nat} (hn : l.length ≤ 8) (h0 : scan (refErr l objs) l.length = 0) (hi : i < l.length) (hk : k < l.length) (h : inPlace (rf l i).name (rf l k).name = true) : rightErr l objs = 6 := by
  unfold rightErr; rw [if_neg (by omega), h0, if_neg (by simp)]
  have hin : ∀ m n, scan (pairErr l m) n = 0 ∨ scan (pairErr l m) n = 6 := fun m n => by
    induction n with
    | zero => exact .inl rfl
    | succ n ih =>
      unfold scan
      rcases ih with ih | ih
      · rw [ih, if_pos rfl]; unfold pairErr; split <;> simp
      · rw [ih, if_neg (by decide)]; exact .inr rfl
  have hout : ∀ n, scan (fun i => scan (pairErr l i) l.length) n = 0 ∨ scan (fun i => scan (pairErr l i) l.length) n = 6 := fun n => by
    induction n with
    | zero => exact .inl rfl
    | succ n ih =>
      unfold scan
      rcases ih with ih | ih
      · rw [ih, if_pos rfl]; exact hin _ _
      · rw [ih, if_neg (by decide)]; exact .inr rfl
  rcases hout l.length with h1 | h1
  · exact absurd (scan_zero h1 i hi) (scan_ne hk (by simp [pairErr, h]))
  · exact h1
theorem rightErr_ok {l : List Rf} {objs : List Obj} (hn : l.length ≤ 8) (h0 : scan (refErr l objs) l.length = 0) (h : ∀ i k, i < l.length → k < l.length → inPlace (rf l i).name (rf l k).name = false) : rightErr l objs = 0 := by
  unfold rightErr; rw [if_neg (by omega), h0, if_neg (by simp)]
  exact scan_of_zero fun i hi => scan_of_zero fun k hk => by simp [pairErr, h i k hi hk]
theorem rightErr_many {l : List Rf} {objs : List Obj} (hn : 8 < l.length) : rightErr l objs = 2 := by unfold rightErr; rw [if_pos hn]

end Go.Proofs.Ytcppgkhkijejoaa
