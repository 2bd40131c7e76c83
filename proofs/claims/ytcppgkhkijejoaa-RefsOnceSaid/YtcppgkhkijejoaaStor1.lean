/- Walks: package store: the search; the kind of what is there. -/
import Derived.Test.YtcppgkhkijejoaaObj1
import Derived.Test.YtcppgkhkijejoaaStoreP
namespace Go.Proofs.Ytcppgkhkijejoaa
open Go.RowKit
set_option linter.unusedVariables false
set_option linter.unusedSimpArgs false

def cmpId (a b : Int) : Int := if a < b then -1 else if b < a then 1 else 0

set_option maxHeartbeats 400000 in
theorem at1_any (i0 i1 id : Int) (a : Option Addr) (n c : Nat) (s : ByteArray) (w : World) :
    Calls Try.prog 92 #[.agg #[.int .i64 i0, .int .i64 i1, .slice a n c, .string s], .int .i64 id] w fun e w' => e = .returned (.int .i64 (cmpId i0 id)) ∧ Below w.heap.size w w' := by
  have hb0 : Below w.heap.size w w := Below.refl _ _
  have hb1 := below_alloc w
  unfold cmpId
  by_cases h1 : i0 < id
  · go_enter Try.func92, Try.ntmps92
    go_wp2
    go_ret
    exact ⟨by simp [h1], hb1 _ _ hb0⟩
  · by_cases h2 : id < i0
    · go_enter Try.func92, Try.ntmps92
      go_wp2
      go_ret
      exact ⟨by simp [h1, h2], hb1 _ _ hb0⟩
    · go_enter Try.func92, Try.ntmps92
      go_wp2
      go_ret
      exact ⟨by simp [h1, h2], hb1 _ _ hb0⟩

theorem cmpId_lt {a b : Int} (h : a < b) : cmpId a b = -1 := by simp [cmpId, h]
theorem cmpId_ge {a b : Int} (h : ¬ a < b) : cmpId a b = if b < a then 1 else 0 := by simp [cmpId, h]

set_option maxRecDepth 100000 in
set_option maxHeartbeats 2000000 in
theorem search_any (l : List Obj) (v : Value) (S : Nat → Prop) (id : Int) (w : World) (h : StoreV S w v l) (hr : Rising l) :
    Calls Try.prog 91 #[v, .int .i64 id, .func (.func 92) #[] #[]] w fun e w' => e = .returned (.tuple #[.int .i64 (lo l id), .bool (isAt l id)]) ∧ Below w.heap.size w w' := by
  obtain ⟨a, n, cap, la, ln, lc, HN, rfl, h1, h2, h3, h4, h5⟩ := h.open
  clear h h5
  obtain ⟨R, hR, hR1, _⟩ := cls_plain w
  have hRb := hR.below
  have hRn := hR.next
  have Hlo := Lib.hid (fun i (hi : i ≤ n) h1 h2 => lo_eq (l := l) (id := id) (i := i) (by rw [← HN.out.1]; exact hi) h1 h2)
  have Hr := Lib.hid hr
  clear hr
  go_enter Try.func91, Try.ntmps91
  go_wp2_with fail
  go_loopg [9, 10] n (fun kx s9 s10 wr => ∃ i j : Nat, s9 = .int .i64 i ∧ s10 = .int .i64 j ∧ i ≤ j ∧ j ≤ n ∧ j - i ≤ kx ∧ In R wr ∧
    Hid ((∀ t, t < i → (obj l t).id < id) ∧ (∀ t, j ≤ t → t < n → id ≤ (obj l t).id)))
  case atStart => exact ⟨0, n, rfl, rfl, by omega, by omega, by omega, hR1, ⟨fun t ht => absurd ht (by omega), fun t h1 h2 => by omega⟩⟩
  case round =>
    clear hR1
    obtain ⟨i, j, rfl, rfl, hij, hjn, hg, hRw, I⟩ := hrel
    by_cases hlt : i < j
    · obtain ⟨b, off, rfl, hb, k0, k1, k2, k3⟩ := h4 (by omega)
      clear h4
      have m1 : ((i + j) / 2 : Nat) < n := by omega
      have x0 := k0 ((i + j) / 2) wr m1 (hRb _ hRw)
      have x1 := k1 ((i + j) / 2) wr m1 (hRb _ hRw)
      have x2 := k2 ((i + j) / 2) wr m1 (hRb _ hRw)
      have x3 := k3 ((i + j) / 2) wr m1 (hRb _ hRw)
      clear k0 k1 k2 k3
      by_cases hc : (obj l ((i + j) / 2)).id < id
      · have hcm := cmpId_lt hc
        go_wp2_with (go_at_call 92; refine (at1_any _ _ _ _ _ _ _ _).mono ?_; rintro e w' ⟨rfl, hb2⟩; have hR2 := hRn _ _ hRw hb2)
        go_roundg (j - ((i + j) / 2 + 1))
        case measure => omega
        case rel =>
          have I2 : Hid ((∀ t, t < (i + j) / 2 + 1 → (obj l t).id < id) ∧ (∀ t, j ≤ t → t < n → id ≤ (obj l t).id)) := ⟨fun t ht => by
            by_cases e : t = (i + j) / 2
            · subst e; exact hc
            · have := Hr.out t ((i + j) / 2) (by omega) (by have := HN.out.1; omega); omega, I.out.2⟩
          exact ⟨(i + j) / 2 + 1, j, by rw [show ((i : Int) + (j : Int)) / 2 + 1 = (((i + j) / 2 + 1 : Nat) : Int) by omega], rfl, by omega, hjn, Nat.le_refl _, hR2, I2⟩
      · have hcm := cmpId_ge hc
        have hpos : ¬ ((if id < (obj l ((i + j) / 2)).id then (1 : Int) else 0) < 0) := by split <;> omega
        rw [← hcm] at hpos
        clear hcm
        go_wp2_with (go_at_call 92; refine (at1_any _ _ _ _ _ _ _ _).mono ?_; rintro e w' ⟨rfl, hb2⟩; have hR2 := hRn _ _ hRw hb2)
        go_roundg ((i + j) / 2 - i)
        case measure => omega
        case rel =>
          have I2 : Hid ((∀ t, t < i → (obj l t).id < id) ∧ (∀ t, (i + j) / 2 ≤ t → t < n → id ≤ (obj l t).id)) := ⟨I.out.1, fun t ht htn => by
            by_cases e : t = (i + j) / 2
            · subst e; omega
            · have := Hr.out ((i + j) / 2) t (by omega) (by have := HN.out.1; omega); omega⟩
          exact ⟨i, (i + j) / 2, rfl, by rw [show ((i : Int) + (j : Int)) / 2 = (((i + j) / 2 : Nat) : Int) by omega], by omega, by omega, Nat.le_refl _, hR2, I2⟩
    · obtain rfl : j = i := by omega
      have HL := Lib.hid (Hlo.out j hjn I.out.1 (fun t h1 h2 => I.out.2 t h1 (by have := HN.out.1; omega)))
      by_cases hn : j < n
      · obtain ⟨b, off, rfl, hb, k0, k1, k2, k3⟩ := h4 (by omega)
        clear h4
        have x0 := k0 j wr hn (hRb _ hRw)
        have x1 := k1 j wr hn (hRb _ hRw)
        have x2 := k2 j wr hn (hRb _ hRw)
        have x3 := k3 j wr hn (hRb _ hRw)
        clear k0 k1 k2 k3
        by_cases he : (obj l j).id = id
        · have hcm : cmpId (obj l j).id id = 0 := by rw [he]; simp [cmpId]
          have He := Lib.hid he; clear he
          go_wp2_with (go_at_call 92; refine (at1_any _ _ _ _ _ _ _ _).mono ?_; rintro e w' ⟨rfl, hb2⟩; have hR2 := hRn _ _ hRw hb2)
          go_ret2
          exact ⟨by unfold isAt; rw [HL.out, He.out, ← HN.out.1]; simp [hn], hRb _ hR2⟩
        · have hcm : ¬ cmpId (obj l j).id id = 0 := by unfold cmpId; split <;> (try split) <;> omega
          have hcm2 : (cmpId (obj l j).id id == 0) = false := by simpa using hcm
          have He := Lib.hid he; clear he
          go_wp2_with (go_at_call 92; refine (at1_any _ _ _ _ _ _ _ _).mono ?_; rintro e w' ⟨rfl, hb2⟩; have hR2 := hRn _ _ hRw hb2)
          go_ret2
          exact ⟨by unfold isAt; rw [HL.out, ← HN.out.1]; simp [He.out], hRb _ hR2⟩
      · go_wp2
        go_ret2
        exact ⟨by unfold isAt; rw [HL.out, ← HN.out.1]; simp [hn], hRb _ hRw⟩

theorem ret_ib {a b : Int} {x y : Bool} (h : a = b) (hx : x = y) : Ending.returned (.tuple #[.int .i64 a, .bool x]) = .returned (.tuple #[.int .i64 b, .bool y]) := by rw [h, hx]

set_option maxHeartbeats 400000 in
theorem at_any (l : List Obj) (v : Value) (S : Nat → Prop) (id : Int) (w : World) (h : StoreV S w v l) (hr : Rising l) :
    Calls Try.prog 72 #[v, .int .i64 id] w fun e w' => e = .returned (.tuple #[.int .i64 (lo l id), .bool (isAt l id)]) ∧ Below w.heap.size w w' := by
  obtain ⟨a, cap, n, rfl⟩ : ∃ a cap n, v = .slice a n cap := let ⟨_, ⟨a, cap, hv, _⟩, _⟩ := h; ⟨a, cap, _, hv⟩
  have hl := lo_le l id
  generalize hk : lo l id = k at hl ⊢
  generalize hb : isAt l id = b
  have Hk := Lib.hid hk
  have Hb := Lib.hid hb
  clear hk hb
  go_enter Try.func72, Try.ntmps72
  go_wp2_with (go_at_call 91; refine (search_any l _ S id _ h hr).mono ?_; rintro e w' ⟨rfl, hb2⟩; rw [Hk.out, Hb.out])
  go_ret2
  exact ⟨rfl, hb2⟩

set_option maxHeartbeats 400000 in
theorem kind_any (l : List Obj) (v : Value) (S : Nat → Prop) (id : Int) (w : World) (h : StoreV S w v l) (hr : Rising l) :
    Calls Try.prog 68 #[v, .int .i64 id] w fun e w' => e = .returned (.int .i64 (kindOf l id)) ∧ Below w.heap.size w w' := by
  have h' := h
  obtain ⟨a, n, cap, la, ln, lc, HN, rfl, h1, h2, h3, h4, h5⟩ := h.open
  clear h h5
  have hl := lo_le l id
  have Hkd := Lib.hid (hr.kind id)
  cases hb : isAt l id
  · go_enter Try.func68, Try.ntmps68
    go_wp2_with (go_at_call 72; refine (at_any l _ S id _ h' hr).mono ?_; rintro e w' ⟨rfl, hb2⟩; rw [hb])
    go_ret
    exact ⟨by rw [Hkd.out, hb]; rfl, hb2⟩
  · have hb' : lo l id < n := by rw [HN.out.1]; simp [isAt] at hb; exact hb.1
    obtain ⟨b, off, rfl, hS, k0, k1, k2, k3⟩ := h4 (by omega)
    clear h4 k0 k2 k3
    have hk := fun x => k1 (lo l id) x hb'
    clear k1
    rw [hb] at Hkd
    go_enter Try.func68, Try.ntmps68
    go_wp2_with (go_at_call 72; refine (at_any l _ S id _ h' hr).mono ?_; rintro e w' ⟨rfl, hb2⟩; rw [hb]; have hk1 := hk _ hb2)
    go_ret
    exact ⟨by rw [Hkd.out]; rfl, hb2⟩

set_option maxHeartbeats 1000000 in
theorem linked_any (o : Obj) (i kind : Int) (a : Option Addr) (n c k : Nat) (w : World) (hi : i = (k : Int)) :
    Calls Try.prog 71 #[.agg #[.int .i64 o.id, .int .i64 o.kind, .slice a n c, .string o.text], .int .i64 i, .int .i64 kind] w fun e w' => e = .returned (.int .i64 (linkErr o k kind)) ∧ Below w.heap.size w w' := by
  subst hi
  have hb0 : Below w.heap.size w w := Below.refl _ _
  have hb1 := below_alloc w
  have He := Lib.hid (show linkErr o k kind = if kind = 0 then 5 else if (if o.kind = 3 then (kind = 2 ∧ k = 0) ∨ (kind = 3 ∧ 0 < k) else kind = 1 ∨ kind = 2) then 0 else 7 from rfl)
  have hk0 : ((k : Int) == 0) = decide (k = 0) := by rw [Bool.eq_iff_iff]; simp
  by_cases k0 : k = 0
  · have hlt : decide (0 < k) = false := by simp [k0]
    have hlt' : ¬ 0 < k := by omega
    rw [decide_eq_true k0] at hk0
    have K0 := Lib.hid k0
    clear k0
    cases q3 : (o.kind == 3) <;> cases e0 : (kind == 0) <;> cases e1 : (kind == 1) <;> cases e2 : (kind == 2) <;> cases e3 : (kind == 3)
    all_goals
      go_enter Try.func71, Try.ntmps71
      go_wp2
      all_goals go_ret
      all_goals (refine ⟨?_, hb1 _ _ hb0⟩; rw [He.out]; simp at e0 e1 e2 e3 q3; simp [e0, e1, e2, e3, q3, K0.out])
      all_goals omega
  · have hlt : decide (0 < k) = true := by simp; omega
    have hlt' : 0 < k := by omega
    rw [decide_eq_false k0] at hk0
    have K0 := Lib.hid k0
    clear k0
    cases q3 : (o.kind == 3) <;> cases e0 : (kind == 0) <;> cases e1 : (kind == 1) <;> cases e2 : (kind == 2) <;> cases e3 : (kind == 3)
    all_goals
      go_enter Try.func71, Try.ntmps71
      go_wp2
      all_goals go_ret
      all_goals (refine ⟨?_, hb1 _ _ hb0⟩; rw [He.out]; simp at e0 e1 e2 e3 q3; simp [e0, e1, e2, e3, q3, K0.out, hlt'])
      all_goals omega
end Go.Proofs.Ytcppgkhkijejoaa
