/- Walks: Has, Behind, Part, Reach. -/
import Derived.Test.YtcppgkhkijejoaaWalk4
namespace Go.Proofs.Ytcppgkhkijejoaa
open Go.RowKit
set_option linter.unusedVariables false
set_option linter.unusedSimpArgs false

theorem Rising.place {l : List Obj} (h : Rising l) {id : Int} (hk : kindOf l id ≠ 0) : isAt l id = true ∧ lo l id < l.length ∧ atOf l id = (lo l id : Int) ∧ (obj l (lo l id)).id = id ∧ kindOf l id = (obj l (lo l id)).kind := by
  obtain ⟨j, hj, hid, hkd⟩ := kind_place hk
  subst hid
  have e := h.lo_self hj
  refine ⟨h.isAt_self hj, by rw [e]; exact hj, by rw [h.at_self hj, e], by rw [e], by rw [e]; exact hkd⟩

set_option maxRecDepth 100000 in
set_option maxHeartbeats 1000000 in
theorem has_any (l : List Obj) (old newer : Int) (lv : Value) (S : Nat → Prop) (w : World) (h : StoreV S w lv l) (hR : Right l) (h1 : kindOf l old ≠ 0) (h2 : kindOf l newer = 3) (hi : I64 newer) :
    Calls Try.prog 69 #[lv, .int .i64 old, .int .i64 newer] w fun e w' => e = .returned (.bool (behindB l old newer)) ∧ Below w.heap.size w w' := by
  obtain ⟨p1, p2, p3, p4, p5⟩ := hR.rising.place h1
  obtain ⟨q1, q2, q3, q4, q5⟩ := hR.rising.place (id := newer) (by omega)
  have Hat := Lib.hid (by have := at_any l lv S old w h hR.rising; rw [p1] at this; exact this)
  obtain ⟨sa, sc, sn, rfl⟩ : ∃ a cap n, lv = .slice a n cap := let ⟨_, ⟨a, cap, hv, _⟩, _⟩ := h; ⟨a, cap, _, hv⟩
  have Hb := Lib.hid (show behindB l old newer = reachB l true [newer] (lo l old) by unfold behindB; rw [p3]; rfl)
  have Hpl := Lib.hid (show ∀ k, k < [newer].length → ∃ i, i < l.length ∧ (obj l i).id = nth [newer] k ∧ (obj l i).kind = 3 from fun k hk => by
    have h0 : k = 0 := by simp at hk; omega
    subst h0
    exact ⟨lo l newer, q2, q4, by omega⟩)
  generalize hj : lo l old = j at *
  have Hj := Lib.hid p2
  have HR := Lib.hid hR
  clear p1 p2 p3 p4 p5 q1 q2 q3 q4 q5 hj h1 h2
  go_enter Try.func69, Try.ntmps69
  go_wp2_with fail
  refine Hat.out.mono ?_
  rintro e w1 ⟨rfl, hb1⟩
  have HI := Lib.hid (ints_new w1 [newer] 3 w1.heap.size rfl (by simp) (by intro x hx; simp only [List.mem_cons, List.not_mem_nil, or_false] at hx; subst hx; exact hi))
  have hb2 : Below w.heap.size w (w1.alloc (.cells #[.int .i64 newer] 3)) := hb1.alloc hb1.size _
  have hst2 := h.below hb2
  go_wp2_with fail
  refine (walk_any l true [newer] _ parents_any (fun _ _ => rfl) HR.out S _ _ _ _ hst2 HI.out (fun k hk => let ⟨i, a, b, c⟩ := Hpl.out k hk; ⟨i, a, b, fun _ => c⟩)).mono ?_
  rintro e w3 ⟨bw, bm, M, rfl, hwk, hM, hb3⟩
  have hMj := hM j Hj.out
  have hb4 := below_next hb2 hb3
  have c1 := block_cell (j := 1) hwk.1 rfl
  have cm := block_cell (j := j) hwk.2 (markRow_get Hj.out)
  rw [hMj, ← Hb.out] at cm
  have hjn : j < l.length := Hj.out
  have Hlen : ∃ n, n = l.length := ⟨_, rfl⟩
  obtain ⟨n, hn⟩ := Hlen
  rw [← hn] at c1 hjn
  have HX := Lib.hid hb4
  have hi1 : (0 : Int) ≤ (j : Int) := by omega
  have hi2 : (j : Int) < (n : Int) := by omega
  clear hn hMj hwk hM hb2 hb3 hb4 hst2 hb1
  go_wp2_with fail
  go_ret
  refine ⟨?_, HX.out⟩
  rfl

def behindRes (l : List Obj) (old newer : Int) : Bool := if behindErr l old newer = 0 then behindB l old newer else false

theorem ret_bi {a b : Int} {x y : Bool} (hx : x = y) (h : a = b) : Ending.returned (.tuple #[.bool x, .int .i64 a]) = .returned (.tuple #[.bool y, .int .i64 b]) := by rw [h, hx]

theorem there_zero {l : List Obj} {ids : List Int} (h : thereErr l ids = 0) : checkStore l = 0 ∧ ∀ x ∈ ids, kindOf l x ≠ 0 := by
  unfold thereErr at h
  by_cases h1 : checkStore l = 0
  · rw [if_neg (by simp [h1])] at h
    refine ⟨h1, fun x hx e => ?_⟩
    have : (ids.any fun x => kindOf l x == 0) = true := by rw [List.any_eq_true]; exact ⟨x, hx, by simp [e]⟩
    rw [this] at h; exact absurd h (by decide)
  · rw [if_pos h1] at h; exact absurd h h1

set_option maxRecDepth 100000 in
set_option maxHeartbeats 2000000 in
theorem behind_any (l : List Obj) (old newer : Int) (lv : Value) (S : Nat → Prop) (w : World) (h : StoreV S w lv l) (ho : I64 old) (hn : I64 newer) :
    Calls Try.prog 37 #[lv, .int .i64 old, .int .i64 newer] w fun e w' => e = .returned (.tuple #[.bool (behindRes l old newer), .int .i64 (behindErr l old newer)]) ∧ Below w.heap.size w w' := by
  have h' := h
  obtain ⟨sa, sc, sn, rfl⟩ : ∃ a cap n, lv = .slice a n cap := let ⟨_, ⟨a, cap, hv, _⟩, _⟩ := h; ⟨a, cap, _, hv⟩
  have HI := Lib.hid (ints_new w [old, newer] 3 w.heap.size rfl (by simp) (by intro x hx; simp only [List.mem_cons, List.not_mem_nil, or_false] at hx; rcases hx with rfl | rfl; exact ho; exact hn))
  have hb1 : Below w.heap.size w (w.alloc (.cells #[.int .i64 old, .int .i64 newer] 3)) := (Below.refl _ _).alloc (Nat.le_refl _) _
  have Hth := Lib.hid (there_any l [old, newer] _ _ S _ _ (h.below hb1) HI.out)
  have Hb1 := Lib.hid hb1
  clear hb1 HI
  by_cases hz : thereErr l [old, newer] = 0
  · obtain ⟨hcs, hids⟩ := there_zero hz
    have hko := hids old (by simp)
    have hkn := hids newer (by simp)
    have HR := Lib.hid (right_of hcs)
    have Hk1 := Lib.hid (fun x (hx : Below w.heap.size w x) => kind_any l _ S old x (h.below hx) HR.out.rising)
    have Hk2 := Lib.hid (fun x (hx : Below w.heap.size w x) => kind_any l _ S newer x (h.below hx) HR.out.rising)
    have Hhas := Lib.hid (fun x (hx : Below w.heap.size w x) h2 => has_any l old newer _ S x (h.below hx) HR.out hko h2 hn)
    have Hd := Lib.hid (show behindErr l old newer = if kindOf l old ≠ 3 ∨ kindOf l newer ≠ 3 then 7 else 0 by unfold behindErr; rw [if_neg (by simp [hz])])
    have Hrs := Lib.hid (show behindRes l old newer = if behindErr l old newer = 0 then behindB l old newer else false from rfl)
    rw [hz] at Hth
    clear hz hcs hids hko hkn h
    generalize kindOf l old = ko at *
    generalize kindOf l newer = kn at *
    by_cases h1 : ko = 3
    · have q1 : (ko != 3) = false := by simpa using h1
      by_cases h2 : kn = 3
      · have q2 : (kn != 3) = false := by simpa using h2
        have He := Lib.hid (show behindErr l old newer = 0 by rw [Hd.out, if_neg (by simp [h1, h2])])
        have Hh2 := Lib.hid (fun x hx => Hhas.out x hx h2)
        clear h1 h2
        go_enter Try.func37, Try.ntmps37
        go_wp2_with fail
        refine Hth.out.mono ?_
        rintro e w2 ⟨rfl, hb2⟩
        have hbw := below_next Hb1.out hb2
        go_wp2_with fail
        refine (Hk1.out _ hbw).mono ?_
        rintro e w3 ⟨rfl, hb3⟩
        have hbw3 := below_next hbw hb3
        go_wp2_with fail
        refine (Hk2.out _ hbw3).mono ?_
        rintro e w4 ⟨rfl, hb4⟩
        have hbw4 := below_next hbw3 hb4
        go_wp2_with fail
        refine (Hh2.out _ hbw4).mono ?_
        rintro e w5 ⟨rfl, hb5⟩
        go_wp2_with fail
        go_ret2
        exact ⟨ret_bi (by rw [Hrs.out, He.out, if_pos rfl]) He.out.symm, below_next hbw4 hb5⟩
      · have q2 : (kn != 3) = true := by simpa using h2
        have He := Lib.hid (show behindErr l old newer = 7 by rw [Hd.out, if_pos (.inr h2)])
        clear h1 h2
        go_enter Try.func37, Try.ntmps37
        go_wp2_with fail
        refine Hth.out.mono ?_
        rintro e w2 ⟨rfl, hb2⟩
        have hbw := below_next Hb1.out hb2
        go_wp2_with fail
        refine (Hk1.out _ hbw).mono ?_
        rintro e w3 ⟨rfl, hb3⟩
        have hbw3 := below_next hbw hb3
        go_wp2_with fail
        refine (Hk2.out _ hbw3).mono ?_
        rintro e w4 ⟨rfl, hb4⟩
        have hbw4 := below_next hbw3 hb4
        go_wp2_with fail
        go_ret2
        exact ⟨ret_bi (by rw [Hrs.out, He.out, if_neg (by decide)]) He.out.symm, hbw4⟩
    · have q1 : (ko != 3) = true := by simpa using h1
      have He := Lib.hid (show behindErr l old newer = 7 by rw [Hd.out, if_pos (.inl h1)])
      clear h1
      go_enter Try.func37, Try.ntmps37
      go_wp2_with fail
      refine Hth.out.mono ?_
      rintro e w2 ⟨rfl, hb2⟩
      have hbw := below_next Hb1.out hb2
      go_wp2_with fail
      refine (Hk1.out _ hbw).mono ?_
      rintro e w3 ⟨rfl, hb3⟩
      have hbw3 := below_next hbw hb3
      go_wp2_with fail
      go_ret2
      exact ⟨ret_bi (by rw [Hrs.out, He.out, if_neg (by decide)]) He.out.symm, hbw3⟩
  · have He := Lib.hid (show behindErr l old newer = thereErr l [old, newer] by unfold behindErr; rw [if_pos hz])
    have Hrs := Lib.hid (show behindRes l old newer = false by unfold behindRes; rw [He.out, if_neg hz])
    have q0 : (thereErr l [old, newer] == 0) = false := by simpa using hz
    have q1 : (thereErr l [old, newer] != 0) = true := by simpa using hz
    clear hz
    generalize thereErr l [old, newer] = te at *
    go_enter Try.func37, Try.ntmps37
    go_wp2_with fail
    refine Hth.out.mono ?_
    rintro e w2 ⟨rfl, hb2⟩
    have hbw := below_next Hb1.out hb2
    go_wp2_with fail
    go_ret2
    exact ⟨ret_bi Hrs.out.symm He.out.symm, hbw⟩
end Go.Proofs.Ytcppgkhkijejoaa
