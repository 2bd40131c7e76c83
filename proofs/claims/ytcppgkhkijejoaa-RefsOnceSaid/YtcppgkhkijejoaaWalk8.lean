/- Walks: the reference's PartOf, IsBehind, SameStore; the law's storeIs. -/
import Derived.Test.YtcppgkhkijejoaaWalk7
import Derived.Test.YtcppgkhkijejoaaObj5
namespace Go.Proofs.Ytcppgkhkijejoaa
open Go.RowKit
set_option linter.unusedVariables false
set_option linter.unusedSimpArgs false

theorem StoreV.vshape {S : Nat → Prop} {w : World} {v : Value} {l : List Obj} (h : StoreV S w v l) : ∃ a c, v = .slice a l.length c := let ⟨_, ⟨a, cap, hv, _⟩, _⟩ := h; ⟨a, cap, hv⟩

set_option maxRecDepth 100000 in
set_option maxHeartbeats 4000000 in
theorem partOf_any (l : List Obj) (tips : List Int) (lv tv : Value) (S S' : Nat → Prop) (w : World) (h : StoreV S w lv l) (ht : IntsV S' w tv tips) (hz : thereErr l tips = 0) :
    Calls Try.prog 39 #[lv, tv] w fun e w' => ∃ v, e = .returned v ∧ StoreV (fun _ => True) w' v (partOf l tips) ∧ Below w.heap.size w w' := by
  have h' := h
  obtain ⟨hcs, hids⟩ := there_zero hz
  have HR := Lib.hid (right_of hcs)
  have Hro := Lib.hid (reachOf_any l false tips HR.out S S' lv tv w h ht (fun k hk => hids _ (by rw [nth_lt hk]; exact List.getElem_mem hk)))
  obtain ⟨a, n, cap, la, ln, lc, HN, rfl, h1, h2, h3, h4, h5⟩ := h.lt.open
  clear h
  obtain ⟨⟨tp, tc⟩, rfl⟩ := ht.shape
  have Hres := Lib.hid (show partOf l tips = partTo l (reachB l false tips) l.length from rfl)
  have hn40 : n ≤ 40 := by rw [HN.out.1]; exact HR.out.many
  clear hcs hids hz
  go_enter Try.func39, Try.ntmps39
  go_wp2_with fail
  refine Hro.out.mono ?_
  rintro e w2 ⟨bm, M, rfl, hbm, hM, hb2⟩
  rw [← HN.out.1]
  have Hb12 := Lib.hid hb2
  have Hbm := Lib.hid hbm
  have HM := Lib.hid hM
  obtain ⟨R, hR, hR1, hRall⟩ := cls_plain w2
  have hRb := hR.below
  have hRn := hR.next
  clear hbm hM hb2
  go_wp2_with fail
  go_loopw [6, 7] (fun v i wr => ∃ k : Nat, k ≤ n ∧ i = .int .i64 k ∧ Hid (Gath w2.heap.size wr v (partTo l (reachB l false tips) k)) ∧ In R wr) (fun _ i _ => n - (intOf i).toNat)
  case atStart => exact ⟨0, by omega, rfl, Gath.nil _ _, hR1⟩
  case round =>
    obtain ⟨k, hk, rfl, HG, hRw⟩ := hrel
    clear hR1
    by_cases hlt : k < n
    · obtain ⟨b, off, rfl, hb, k0, k1, k2, k3⟩ := h4 (by omega)
      have hww := below_next Hb12.out (hRb _ hRw)
      have x0 := k0 k wr hlt hww
      have x1 := k1 k wr hlt hww
      have x2 := k2 k wr hlt hww
      have x3 := k3 k wr hlt hww
      have Ho := Lib.hid ((h5 k hlt).below hww)
      clear h4 h5 k0 k1 k2 k3
      have cm := block_cell (j := k) (((hRb _ hRw).block _ (lt_of_block Hbm.out)).trans Hbm.out) (markRow_get (by rw [← HN.out.1]; exact hlt))
      rw [HM.out k (by rw [← HN.out.1]; exact hlt)] at cm
      obtain ⟨va, vc, hvs⟩ := HG.out.shape
      subst hvs
      have hi1 : (0 : Int) ≤ (k : Int) := by omega
      have hi2 : (k : Int) < (n : Int) := by omega
      cases hq : reachB l false tips k
      · rw [hq] at cm
        have HG2 := Lib.hid (show Gath w2.heap.size wr _ (partTo l (reachB l false tips) (k + 1)) by rw [partTo_no hq]; exact HG.out)
        go_wp2_with fail
        go_roundw
        case rel => exact ⟨k + 1, by omega, by go_num, HG2, hRw⟩
        case measure => simp [intOf]; omega
      · rw [hq] at cm
        have hwz := Hb12.out.size
        have hrz := (hRb _ hRw).size
        have Hsep := Lib.hid (show ∀ b, S b ∧ b < w.heap.size → b < wr.heap.size ∧ (Value.slice va (partTo l (reachB l false tips) k).length vc).ownBlock ≠ some b from
          fun b hb => ⟨by have := hb.2; omega, fun e => by have := (HG.out.block e).1; have := hb.2; omega⟩)
        have hpl := partTo_length l (reachB l false tips) k
        go_wp2_with (at_builtin; refine wpList_append_obj rfl _ _ rfl HG.out Ho.out rfl Hsep.out (by omega) hrz rfl rfl (by first | rfl | simp) ?_)
        intro v' w5 hG5 hu5
        have hR5 : In R w5 := hRall _ ((hRb _ hRw).trans (hu5.below (B := w2.heap.size) hrz (fun b hb => (HG.out.block hb).1)))
        have HG5 := Lib.hid (show Gath w2.heap.size w5 v' (partTo l (reachB l false tips) (k + 1)) by rw [partTo_yes hq]; exact hG5)
        obtain ⟨va', vc', hvs'⟩ := hG5.shape
        subst hvs'
        clear hG5 hu5
        go_wp2_with fail
        go_roundw
        case rel => exact ⟨k + 1, by omega, by go_num, HG5, hR5⟩
        case measure => simp [intOf]; omega
    · obtain rfl : k = n := by omega
      obtain ⟨va, vc, hvs⟩ := HG.out.shape
      have hpl := partTo_length l (reachB l false tips) k
      have HSt := Lib.hid (HG.out.store (by omega))
      subst hvs
      go_wp2_with fail
      go_ret
      refine ⟨_, rfl, ?_, Hb12.out.trans ((hRb _ hRw).mono Hb12.out.size)⟩
      rw [Hres.out, ← HN.out.1]; exact HSt.out

set_option maxRecDepth 100000 in
set_option maxHeartbeats 1000000 in
theorem isBehind_any (l : List Obj) (old newer : Int) (lv : Value) (S : Nat → Prop) (w : World) (h : StoreV S w lv l) (hR : Right l) (h1 : kindOf l old ≠ 0) (h2 : kindOf l newer ≠ 0) (hi : I64 newer) :
    Calls Try.prog 41 #[lv, .int .i64 old, .int .i64 newer] w fun e w' => e = .returned (.bool (behindB l old newer)) ∧ Below w.heap.size w w' := by
  obtain ⟨p1, p2, p3, p4, p5⟩ := hR.rising.place h1
  have HI := Lib.hid (ints_new w [newer] 3 w.heap.size rfl (by simp) (by intro x hx; simp only [List.mem_cons, List.not_mem_nil, or_false] at hx; subst hx; exact hi))
  have hb1 : Below w.heap.size w (w.alloc (.cells #[.int .i64 newer] 3)) := (Below.refl _ _).alloc (Nat.le_refl _) _
  have Hro := Lib.hid (reachOf_any l true [newer] hR S _ _ _ _ (h.below hb1) HI.out (fun k hk => by
    have h0 : k = 0 := by simp at hk; omega
    subst h0; exact h2))
  have Hat := Lib.hid (fun x (hx : Below w.heap.size w x) => by have := objectAt_any l lv S old x (h.below hx); rw [p3] at this; exact this)
  have Hb := Lib.hid (show behindB l old newer = reachB l true [newer] (lo l old) by unfold behindB; rw [p3]; rfl)
  obtain ⟨sa, sc, rfl⟩ := h.vshape
  generalize hj : lo l old = j at *
  have Hj := Lib.hid p2
  have Hb1 := Lib.hid hb1
  clear p1 p2 p3 p4 p5 hj h1 h2 h hR hb1
  go_enter Try.func41, Try.ntmps41
  go_wp2_with fail
  refine Hro.out.mono ?_
  rintro e w3 ⟨bm, M, rfl, hbm, hM, hb3⟩
  have hb4 := below_next Hb1.out hb3
  have hMj := hM j Hj.out
  have cm := block_cell (j := j) hbm (markRow_get Hj.out)
  rw [hMj, ← Hb.out] at cm
  have hjn : j < l.length := Hj.out
  have hi1 : (0 : Int) ≤ (j : Int) := by omega
  have hi2 : (j : Int) < (l.length : Int) := by omega
  have HX := Lib.hid hb4
  clear hMj hbm hM hb3 hb4
  go_wp2_with fail
  refine (Hat.out _ HX.out).mono ?_
  rintro e w5 ⟨rfl, rfl⟩
  go_wp2_with fail
  go_ret
  exact ⟨rfl, HX.out⟩

def sameStore (xs ys : List Obj) : Bool := decide (xs.length = ys.length) && (List.range xs.length).all (fun i => sameObj (obj xs i) (obj ys i))
theorem sameStore_iff (xs ys : List Obj) : sameStore xs ys = true ↔ xs = ys := by
  unfold sameStore
  simp only [Bool.and_eq_true, decide_eq_true_eq, List.all_eq_true, List.mem_range]
  constructor
  · rintro ⟨h1, h2⟩
    apply List.ext_getElem h1
    intro i g1 g2
    have := (sameObj_iff _ _).1 (h2 i g1)
    rwa [obj_lt g1, obj_lt g2] at this
  · rintro rfl
    exact ⟨rfl, fun i _ => (sameObj_iff _ _).2 rfl⟩
theorem sameStore_refl (xs : List Obj) : sameStore xs xs = true := (sameStore_iff _ _).2 rfl
theorem sameStore_len {xs ys : List Obj} (h : xs.length ≠ ys.length) : sameStore xs ys = false := by unfold sameStore; simp [h]
theorem sameStore_at {xs ys : List Obj} {k : Nat} (hk : k < xs.length) (h : sameObj (obj xs k) (obj ys k) = false) : sameStore xs ys = false := by
  cases e : sameStore xs ys
  · rfl
  · have := (sameStore_iff _ _).1 e
    subst this
    rw [(sameObj_iff _ _).2 rfl] at h; cases h
theorem sameStore_all {xs ys : List Obj} (hl : xs.length = ys.length) (h : ∀ k, k < xs.length → sameObj (obj xs k) (obj ys k) = true) : sameStore xs ys = true := by
  unfold sameStore
  simp only [Bool.and_eq_true, decide_eq_true_eq, List.all_eq_true, List.mem_range]
  exact ⟨hl, h⟩

set_option maxRecDepth 100000 in
set_option maxHeartbeats 2000000 in
theorem sameStore_any (xs ys : List Obj) (v v' : Value) (S S' : Nat → Prop) (w : World) (h1 : StoreV S w v xs) (h2 : StoreV S' w v' ys) :
    Calls Try.prog 50 #[v, v'] w fun e w' => e = .returned (.bool (sameStore xs ys)) ∧ Below w.heap.size w w' := by
  obtain ⟨a, n, cap, la, ln, lc, HN, rfl, _, hc, _, h4, h5⟩ := h1.open
  obtain ⟨a', n', cap', la', ln', lc', HN', rfl, _, hc', _, h4', h5'⟩ := h2.open
  obtain ⟨R, hR, hR1, _⟩ := cls_plain w
  have hRb := hR.below
  have hRg := cls_grown hR
  clear h1 h2
  by_cases hl : n = n'
  · subst hl
    have Hall := Lib.hid (sameStore_all (xs := xs) (ys := ys) (by rw [← HN.out.1, ← HN'.out.1]))
    go_enter Try.func50, Try.ntmps50
    go_wp2_with fail
    go_loopw [5] (fun i wr => ∃ k : Nat, k ≤ n ∧ i = .int .i64 k ∧ Hid (∀ j, j < k → sameObj (obj xs j) (obj ys j) = true) ∧ In R wr) (fun i _ => n - (intOf i).toNat)
    case atStart => exact ⟨0, by omega, rfl, fun j hj => absurd hj (by omega), hR1⟩
    case round =>
      obtain ⟨k, hk, rfl, Hs, hRw⟩ := hrel
      clear hR1
      by_cases hlt : k < n
      · obtain ⟨b, off, rfl, hb, k0, k1, k2, k3⟩ := h4 (by omega)
        obtain ⟨b', off', rfl, hb', k0', k1', k2', k3'⟩ := h4' (by omega)
        have x0 := fun x (hx : In R x) => k0 k x hlt (hRb x hx)
        have x1 := fun x (hx : In R x) => k1 k x hlt (hRb x hx)
        have x2 := fun x (hx : In R x) => k2 k x hlt (hRb x hx)
        have x3 := fun x (hx : In R x) => k3 k x hlt (hRb x hx)
        have y0 := fun x (hx : In R x) => k0' k x hlt (hRb x hx)
        have y1 := fun x (hx : In R x) => k1' k x hlt (hRb x hx)
        have y2 := fun x (hx : In R x) => k2' k x hlt (hRb x hx)
        have y3 := fun x (hx : In R x) => k3' k x hlt (hRb x hx)
        have Hso := Lib.hid (fun x (hx : In R x) => sameObject_any (obj xs k) (obj ys k) _ _ S S' x ((h5 k hlt).below (hRb x hx)) ((h5' k hlt).below (hRb x hx)))
        clear k0 k1 k2 k3 k0' k1' k2' k3' h4 h4' h5 h5'
        have hi1 : (0 : Int) ≤ (k : Int) := by omega
        have hi2 : (k : Int) < (n : Int) := by omega
        cases hq : sameObj (obj xs k) (obj ys k)
        · have He := Lib.hid (sameStore_at (by rw [← HN.out.1]; exact hlt) hq)
          rw [hq] at Hso
          go_wp2_with fail
          refine wp_region_quiet_below (by kernel_rfl) (by kernel_rfl) ?_
          repeat (quiet_step (exact Calls.regrown_of (Hso.out _ (hRg _ _ _ hRw))))
          refine wpQuiet_nil ?_
          intro _ hw'
          obtain ⟨⟨dq, osq⟩, hw''⟩ := hw'
          subst hw''
          have hR4 := hRg _ dq osq hRw
          go_wp2_with fail
          go_ret
          exact ⟨by rw [He.out]; rfl, hRb _ hR4⟩
        · have He := Lib.hid hq
          rw [hq] at Hso
          go_wp2_with fail
          refine wp_region_quiet_below (by kernel_rfl) (by kernel_rfl) ?_
          repeat (quiet_step (exact Calls.regrown_of (Hso.out _ (hRg _ _ _ hRw))))
          refine wpQuiet_nil ?_
          intro _ hw'
          obtain ⟨⟨dq, osq⟩, hw''⟩ := hw'
          subst hw''
          have hR4 := hRg _ dq osq hRw
          generalize Go.Sort.grow (redrawn wr dq) osq = w4 at *
          go_wp2_with fail
          go_roundw
          case rel => exact ⟨k + 1, by omega, by go_num, all_next Hs.out He.out, hR4⟩
          case measure => simp [intOf]; omega
      · have HE := Lib.hid (show sameStore xs ys = true from Hall.out (fun j hj => Hs.out j (by have := HN.out.1; omega)))
        go_wp2_with fail
        go_ret
        exact ⟨by rw [HE.out]; rfl, hRb _ hRw⟩
  · have Hl := Lib.hid (sameStore_len (xs := xs) (ys := ys) (by rw [← HN.out.1, ← HN'.out.1]; exact hl))
    go_enter Try.func50, Try.ntmps50
    go_wp2_with fail
    go_ret
    exact ⟨by rw [Hl.out]; rfl, hRb _ hR1⟩

/-- what storeIs asks -/
def storeIsB (l : List Obj) (e c : Int) (want : List Obj) : Bool := (e == c) && sameStore l (if c = 0 then want else [])
theorem storeIsB_same (l : List Obj) (e : Int) : storeIsB l e e l = true ↔ (e = 0 ∨ l = []) := by
  unfold storeIsB
  by_cases h : e = 0
  · simp [h, sameStore_refl]
  · simp [h, sameStore_iff]

set_option maxRecDepth 100000 in
set_option maxHeartbeats 1000000 in
theorem storeIs_any (l want : List Obj) (e c : Int) (v u : Value) (S S' : Nat → Prop) (w : World) (h : StoreV S w v l) (hw : StoreV S' w u want) :
    Calls Try.prog 42 #[v, .int .i64 e, .int .i64 c, u] w fun x w' => x = .returned (.bool (storeIsB l e c want)) ∧ Below w.heap.size w w' := by
  have H1 := Lib.hid (sameStore_any l want v u S S' w h hw)
  have H2 := Lib.hid (sameStore_any l [] v (.slice none 0 0) S (fun _ => True) w h (StoreV.nil _ _ _ _ (by omega)))
  obtain ⟨a, n, rfl⟩ := h.vshape
  obtain ⟨a', n', rfl⟩ := hw.vshape
  have Hd := Lib.hid (show storeIsB l e c want = ((e == c) && sameStore l (if c = 0 then want else [])) from rfl)
  clear h hw
  by_cases hc : c = 0
  · have q0 : (c != 0) = false := by simpa using hc
    rw [if_pos hc] at Hd
    generalize sameStore l want = b1 at *
    have HC := Lib.hid hc; clear hc
    cases q1 : (e == c)
    · go_enter Try.func42, Try.ntmps42
      go_wp2_with fail
      go_ret
      exact ⟨by rw [Hd.out, q1]; rfl, Below.refl _ _⟩
    · go_enter Try.func42, Try.ntmps42
      go_wp2_with fail
      refine H1.out.mono ?_
      rintro x w2 ⟨rfl, hb2⟩
      go_wp2_with fail
      go_ret
      exact ⟨by rw [Hd.out, q1]; rfl, hb2⟩
  · have q0 : (c != 0) = true := by simpa using hc
    rw [if_neg hc] at Hd
    generalize sameStore l [] = b1 at *
    have HC := Lib.hid hc; clear hc
    cases q1 : (e == c)
    · go_enter Try.func42, Try.ntmps42
      go_wp2_with fail
      go_ret
      exact ⟨by rw [Hd.out, q1]; rfl, Below.refl _ _⟩
    · go_enter Try.func42, Try.ntmps42
      go_wp2_with fail
      refine H2.out.mono ?_
      rintro x w2 ⟨rfl, hb2⟩
      go_wp2_with fail
      go_ret
      exact ⟨by rw [Hd.out, q1]; rfl, hb2⟩
end Go.Proofs.Ytcppgkhkijejoaa
