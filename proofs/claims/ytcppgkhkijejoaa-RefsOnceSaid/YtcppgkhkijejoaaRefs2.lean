/- Walks: where a name is; what is wrong with an id that must be a commit's; a name that is a place in another one. -/
import Derived.Test.YtcppgkhkijejoaaRefs1
import Derived.Test.YtcppgkhkijejoaaStor2
namespace Go.Proofs.Ytcppgkhkijejoaa
open Go.RowKit
set_option linter.unusedVariables false
set_option linter.unusedSimpArgs false

set_option maxHeartbeats 1000000 in
theorem refAt_any (l : List Rf) (v : Value) (S : Nat → Prop) (s : ByteArray) (w : World) (h : RefsV S w v l) :
    Calls Try.prog 27 #[v, .string s] w fun e w' => e = .returned (.int .i64 (findRf l s)) ∧ w = w' := by
  obtain ⟨a, n, cap, HN, rfl, h1, h2, h3, h4, h5⟩ := h.open
  clear h h5
  have Hh := Lib.hid (fun k h1 hk he => findRf_hit (l := l) (s := s) (k := k) h1 (by rw [← HN.out]; exact hk) he)
  have Hn := Lib.hid (fun h1 => findRf_none (l := l) (s := s) (by rw [← HN.out]; exact h1))
  go_enter Try.func27, Try.ntmps27
  go_wp2
  go_loop [5] (fun i => ∃ k : Nat, k ≤ n ∧ i = .int .i64 k ∧ Hid (∀ j, j < k → ((rf l j).name.toList == s.toList) = false)) (fun i => n - (intOf i).toNat)
  case atStart => exact ⟨0, by omega, rfl, fun j hj => absurd hj (by omega)⟩
  case round =>
    obtain ⟨k, hk, rfl, Hs⟩ := hrel
    by_cases hlt : k < n
    · obtain ⟨b, off, rfl, hb, k0, k1⟩ := h4 (by omega)
      have x0 := k0 k w hlt (Below.refl _ _)
      clear h4 k0 k1
      cases hq : ((rf l k).name.toList == s.toList)
      · have He := Lib.hid hq
        go_wp2
        go_round
        case rel => exact ⟨k + 1, by omega, by go_num, all_next Hs.out He.out⟩
        case measure => simp [intOf]; omega
      · have HK := Lib.hid (Hh.out k Hs.out hlt hq)
        go_wp2
        go_ret
        exact ⟨ret_int HK.out.symm, rfl⟩
    · obtain rfl : k = n := by omega
      have HK := Lib.hid (Hn.out Hs.out)
      go_wp2
      go_ret
      exact ⟨ret_int HK.out.symm, rfl⟩

/-- the first for which p holds, or -1 -/
def idxP (p : Rf → Bool) (l : List Rf) : Int := match l.findIdx? p with | some i => (i : Int) | none => -1
theorem idxP_hit {l : List Rf} {p : Rf → Bool} {k : Nat} (h : ∀ j, j < k → p (rf l j) = false) (hk : k < l.length) (he : p (rf l k) = true) : idxP p l = k := by
  unfold idxP
  have : l.findIdx? p = some k := by
    rw [List.findIdx?_eq_some_iff_getElem]
    refine ⟨hk, by rw [← rf_lt hk]; exact he, fun j hj => ?_⟩
    have := h j hj
    rw [rf_lt (by omega)] at this
    simp [this]
  rw [this]
theorem idxP_none {l : List Rf} {p : Rf → Bool} (h : ∀ j, j < l.length → p (rf l j) = false) : idxP p l = -1 := by
  unfold idxP
  have : l.findIdx? p = none := by
    rw [List.findIdx?_eq_none_iff]
    intro x hx
    obtain ⟨i, hi, rfl⟩ := List.getElem_of_mem hx
    have := h i hi
    rwa [rf_lt hi] at this
  rw [this]
theorem idxP_cases (p : Rf → Bool) (l : List Rf) : (idxP p l = -1 ∧ ∀ j, j < l.length → p (rf l j) = false) ∨ ∃ k, k < l.length ∧ idxP p l = (k : Int) ∧ p (rf l k) = true := by
  unfold idxP
  cases h : l.findIdx? p with
  | none =>
    rw [List.findIdx?_eq_none_iff] at h
    exact .inl ⟨rfl, fun j hj => by rw [rf_lt hj]; exact h _ (List.getElem_mem hj)⟩
  | some k =>
    rw [List.findIdx?_eq_some_iff_getElem] at h
    obtain ⟨hk, he, _⟩ := h
    exact .inr ⟨k, hk, rfl, by rw [rf_lt hk]; exact he⟩

/-- a function value that asks p of the refs of l, in whatever world comes behind w -/
def AsksP' (g : Nat) (c : Value) (p : Rf → Bool) (w : World) (l : List Rf) : Prop :=
  ∀ (x : World) (i : Nat), i < l.length → Below w.heap.size w x → Calls Try.prog g #[.agg #[.string (rf l i).name, .int .i64 (rf l i).id], c] x fun e w' => e = .returned (.bool (p (rf l i))) ∧ Below x.heap.size x w'

set_option maxHeartbeats 1000000 in
theorem indexFunc_any' (l : List Rf) (v c : Value) (S : Nat → Prop) (g : Nat) (p : Rf → Bool) (w : World) (h : RefsV S w v l) (eg : ∀ args w, (callFunc g args).run Try.prog w = .ok (.enter g args) w) (hp : AsksP' g c p w l) :
    Calls Try.prog 78 #[v, .func (.func g) #[] #[c]] w fun e w' => e = .returned (.int .i64 (idxP p l)) ∧ Below w.heap.size w w' := by
  obtain ⟨a, n, cap, HN, rfl, h1, h2, h3, h4, h5⟩ := h.open
  clear h h5
  obtain ⟨R, hR, hR1, _⟩ := cls_plain w
  have hRb := hR.below
  have hRn := hR.next
  have Hp := Lib.hid (fun x k (hk : k < n) hx => hp x k (by rw [← HN.out]; exact hk) hx); clear hp
  have Hh := Lib.hid (fun k h1 hk he => idxP_hit (l := l) (p := p) (k := k) h1 (by rw [← HN.out]; exact hk) he)
  have Hn := Lib.hid (fun h1 => idxP_none (l := l) (p := p) (by rw [← HN.out]; exact h1))
  go_enter Try.func78, Try.ntmps78
  go_wp2_with fail
  go_loopw [8] (fun i wr => ∃ k : Nat, k ≤ n ∧ i = .int .i64 k ∧ Hid (∀ j, j < k → p (rf l j) = false) ∧ In R wr) (fun i _ => n - (intOf i).toNat)
  case atStart => exact ⟨0, by omega, rfl, fun j hj => absurd hj (by omega), hR1⟩
  case round =>
    obtain ⟨k, hk, rfl, Hs, hRw⟩ := hrel
    clear hR1
    by_cases hlt : k < n
    · obtain ⟨b, off, rfl, hb, k0, k1⟩ := h4 (by omega)
      have x0 := k0 k wr hlt (hRb _ hRw)
      have x1 := k1 k wr hlt (hRb _ hRw)
      clear h4 k0 k1
      cases hq : p (rf l k)
      · have He := Lib.hid hq
        go_wp2_with fail
        refine (Hp.out _ k hlt (hRb _ hRw)).mono ?_
        rintro e w' ⟨rfl, hb2⟩
        rw [hq]
        have hR2 := hRn _ _ hRw hb2
        go_wp2_with fail
        go_roundw
        case rel => exact ⟨k + 1, by omega, by go_num, all_next Hs.out He.out, hR2⟩
        case measure => simp [intOf]; omega
      · have HK := Lib.hid (Hh.out k Hs.out hlt hq)
        go_wp2_with fail
        refine (Hp.out _ k hlt (hRb _ hRw)).mono ?_
        rintro e w' ⟨rfl, hb2⟩
        rw [hq]
        have hR2 := hRn _ _ hRw hb2
        go_wp2_with fail
        go_ret
        exact ⟨ret_int HK.out.symm, hRb _ hR2⟩
    · obtain rfl : k = n := by omega
      have HK := Lib.hid (Hn.out Hs.out)
      go_wp2_with fail
      go_ret
      exact ⟨ret_int HK.out.symm, hRb _ hRw⟩

end Go.Proofs.Ytcppgkhkijejoaa
