/- The plain law: what the program's functions compute, as plain Lean functions; objects. No program here. -/
import Derived.Test.YtcppgkhkijejoaaRep
namespace Go.Proofs.Ytcppgkhkijejoaa

/-- the first of f 0 .. f (n-1) that is not 0; else 0 -/
def scan (f : Nat → Int) : Nat → Int
  | 0 => 0
  | n + 1 => if scan f n = 0 then f n else scan f n

theorem scan_hit {f : Nat → Int} {k n : Nat} (h0 : scan f k = 0) (hf : f k ≠ 0) (hk : k < n) : scan f n = f k := by
  induction n with
  | zero => omega
  | succ n ih =>
    by_cases h : k = n
    · subst h; simp [scan, h0]
    · have := ih (by omega)
      simp [scan, this, hf]

theorem scan_next {f : Nat → Int} {k : Nat} (h0 : scan f k = 0) (hf : f k = 0) : scan f (k + 1) = 0 := by simp [scan, h0, hf]

theorem scan_zero {f : Nat → Int} {n : Nat} (h : scan f n = 0) : ∀ k, k < n → f k = 0 := by
  induction n with
  | zero => intro k hk; omega
  | succ n ih =>
    intro k hk
    by_cases h0 : scan f n = 0
    · simp [scan, h0] at h
      by_cases e : k = n
      · subst e; exact h
      · exact ih h0 k (by omega)
    · simp [scan, h0] at h

theorem scan_of_zero {f : Nat → Int} {n : Nat} (h : ∀ k, k < n → f k = 0) : scan f n = 0 := by
  induction n with
  | zero => rfl
  | succ n ih => exact scan_next (ih fun k hk => h k (by omega)) (h n (by omega))

theorem scan_congr {f g : Nat → Int} {n : Nat} (h : ∀ k, k < n → f k = g k) : scan f n = scan g n := by
  induction n with
  | zero => rfl
  | succ n ih => simp only [scan, ih fun k hk => h k (by omega), h n (by omega)]

def within (n a b : Int) : Bool := decide (a ≤ n) && decide (n ≤ b)
theorem within_true {n a b : Int} (h : within n a b = true) : a ≤ n ∧ n ≤ b := by simpa [within] using h
theorem within_false {n a b : Int} (h : within n a b = false) : ¬ (a ≤ n ∧ n ≤ b) := by
  intro h'; simp [within, h'.1, h'.2] at h

/-- what is wrong with link i -/
def linkBad (o : Obj) (i : Nat) : Int :=
  if within (nth o.links i) 1 (o.id - 1) = false then 3
  else if (if o.kind = 3 then 2 else 1) ≤ i ∧ nth o.links i ≤ nth o.links (i - 1) then 4 else 0

def formBad (o : Obj) : Bool := (decide (o.kind = 1) && decide (0 < o.links.length)) || (decide (o.kind = 3) && decide (o.links.length = 0))
def linksErr (o : Obj) : Int :=
  if scan (linkBad o) o.links.length ≠ 0 then scan (linkBad o) o.links.length
  else if formBad o = true then 1 else 0

/-- A1 -/
def checkObj (o : Obj) : Int :=
  if within o.id 1 99 = false then 3
  else if within o.kind 1 3 = false then 7
  else if 4 < o.links.length ∨ 8 < o.text.size then 2
  else linksErr o

theorem linksErr_bad {o : Obj} {k : Nat} {e : Int} (h0 : scan (linkBad o) k = 0) (hf : linkBad o k = e) (he : e ≠ 0) (hk : k < o.links.length) : linksErr o = e := by
  have := scan_hit h0 (by omega) hk
  unfold linksErr; rw [this, hf, if_pos he]
theorem linksErr_form {o : Obj} (h0 : scan (linkBad o) o.links.length = 0) (h : formBad o = true) : linksErr o = 1 := by
  unfold linksErr; rw [h0, if_neg (by simp), if_pos h]
theorem linksErr_ok {o : Obj} (h0 : scan (linkBad o) o.links.length = 0) (h : formBad o = false) : linksErr o = 0 := by
  unfold linksErr; rw [h0, if_neg (by simp), if_neg (by simp [h])]
theorem linkBad_range {o : Obj} {k : Nat} (h : within (nth o.links k) 1 (o.id - 1) = false) : linkBad o k = 3 := by simp [linkBad, h]
theorem linkBad_state {o : Obj} {k : Nat} (h : within (nth o.links k) 1 (o.id - 1) = true) (h1 : (if o.kind = 3 then 2 else 1) ≤ k) (h2 : nth o.links k ≤ nth o.links (k - 1)) : linkBad o k = 4 := by
  simp only [linkBad, h]; simp [h1, h2]
theorem linkBad_ok {o : Obj} {k : Nat} (h : within (nth o.links k) 1 (o.id - 1) = true) (h1 : ¬ ((if o.kind = 3 then 2 else 1) ≤ k ∧ nth o.links k ≤ nth o.links (k - 1))) : linkBad o k = 0 := by
  simp only [linkBad, h]; simp only [h1]; simp

end Go.Proofs.Ytcppgkhkijejoaa
