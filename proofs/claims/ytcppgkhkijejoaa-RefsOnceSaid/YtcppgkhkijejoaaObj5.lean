/- Walks: sameness of numbers and objects (the reference's); the law's own objects. -/
import Derived.Test.YtcppgkhkijejoaaObj4
import Derived.Test.YtcppgkhkijejoaaSame
namespace Go.Proofs.Ytcppgkhkijejoaa
open Go.RowKit
set_option linter.unusedVariables false
set_option linter.unusedSimpArgs false

set_option maxHeartbeats 1000000 in
theorem sameInts_any (xs ys : List Int) (v v' : Value) (S S' : Nat → Prop) (w : World) (h1 : IntsV S w v xs) (h2 : IntsV S' w v' ys) :
    Calls Try.prog 34 #[v, v'] w fun e w' => e = .returned (.bool (sameInts xs ys)) ∧ Below w.heap.size w w' := by
  obtain ⟨a, n, cap, HN, rfl, hc1, hc2, hc8, hc⟩ := h1.open
  obtain ⟨a', n', cap', HN', rfl, hc1', hc2', hc8', hc'⟩ := h2.open
  obtain ⟨R, hR, hR1, _⟩ := cls_plain w
  have hRb := hR.below
  have hRn := hR.drewN
  by_cases hl : n = n'
  · subst hl
    have Hall := Lib.hid (sameInts_all (xs := xs) (ys := ys) (by rw [← HN.out, ← HN'.out]))
    go_enter Try.func34, Try.ntmps34
    go_wp2
    go_loopw [5] (fun i wr => ∃ k : Nat, k ≤ n ∧ i = .int .i64 k ∧ Hid (∀ j, j < k → nth xs j = nth ys j) ∧ In R wr) (fun i _ => n - (intOf i).toNat)
    case atStart => exact ⟨0, by omega, rfl, fun j hj => absurd hj (by omega), hR1⟩
    case round =>
      obtain ⟨k, hk, rfl, Hs, hRw⟩ := hrel
      clear hR1
      by_cases hlt : k < n
      · obtain ⟨b, off, rfl, hb, hcell⟩ := hc (by omega)
        obtain ⟨b', off', rfl, hb', hcell'⟩ := hc' (by omega)
        have hck : ∀ x, In R x → x.cell? ⟨b, off + k, none⟩ = some (.int .i64 (nth xs k)) := fun x hx => hcell k x hlt (hRb x hx)
        have hck' : ∀ x, In R x → x.cell? ⟨b', off' + k, none⟩ = some (.int .i64 (nth ys k)) := fun x hx => hcell' k x hlt (hRb x hx)
        clear hc hc' hcell hcell'
        have hi1 : (0 : Int) ≤ (k : Int) := by omega
        have hi2 : (k : Int) < (n : Int) := by omega
        by_cases he : nth xs k = nth ys k
        · have hq : (nth xs k != nth ys k) = false := by simpa using he
          have He := Lib.hid he; clear he
          go_wp2_with fail
          go_quiet (fail)
          go_wp2
          go_roundw
          case rel => exact ⟨k + 1, by omega, by go_num, all_next Hs.out He.out, hRn _ _ hRw⟩
          case measure => simp [intOf]; omega
        · have hq : (nth xs k != nth ys k) = true := by simpa using he
          have Hq := Lib.hid (sameInts_at he); clear he
          go_wp2_with fail
          go_quiet (fail)
          go_wp2
          go_ret
          exact ⟨by rw [Hq.out]; rfl, hRb _ (hRn _ _ hRw)⟩
      · have Hk := Lib.hid (show sameInts xs ys = true from Hall.out (fun j hj => Hs.out j (by have := HN.out; omega)))
        go_wp2
        go_ret
        exact ⟨by rw [Hk.out]; rfl, hRb _ hRw⟩
  · have Hl := Lib.hid (sameInts_len (xs := xs) (ys := ys) (by rw [← HN.out, ← HN'.out]; exact hl))
    go_enter Try.func34, Try.ntmps34
    go_wp2
    go_ret
    exact ⟨by rw [Hl.out]; rfl, hRb _ hR1⟩

set_option maxHeartbeats 1000000 in
theorem sameObject_any (o p : Obj) (lv lv' : Value) (S S' : Nat → Prop) (w : World) (ho : ObjIs S w o lv) (hp : ObjIs S' w p lv') :
    Calls Try.prog 24 #[.agg #[.int .i64 o.id, .int .i64 o.kind, lv, .string o.text], .agg #[.int .i64 p.id, .int .i64 p.kind, lv', .string p.text]] w
      fun e w' => e = .returned (.bool (sameObj o p)) ∧ Below w.heap.size w w' := by
  obtain ⟨q, rfl⟩ := ho.1.shape
  obtain ⟨q', rfl⟩ := hp.1.shape
  have hb0 : Below w.heap.size w w := Below.refl _ _
  have hb1 := below_alloc w
  have Hd := Lib.hid (show sameObj o p = ((o.id == p.id) && (o.kind == p.kind) && (o.text.toList == p.text.toList) && sameInts o.links p.links) from rfl)
  cases e1 : (o.id == p.id)
  · go_enter Try.func24, Try.ntmps24
    go_wp2
    go_ret
    exact ⟨by rw [Hd.out, e1]; rfl, hb1 _ _ (hb1 _ _ hb0)⟩
  · cases e2 : (o.kind == p.kind)
    · go_enter Try.func24, Try.ntmps24
      go_wp2
      go_ret
      exact ⟨by rw [Hd.out, e1, e2]; rfl, hb1 _ _ (hb1 _ _ hb0)⟩
    · cases e3 : (o.text.toList == p.text.toList)
      · go_enter Try.func24, Try.ntmps24
        go_wp2
        go_ret
        exact ⟨by rw [Hd.out, e1, e2, e3]; rfl, hb1 _ _ (hb1 _ _ hb0)⟩
      · go_enter Try.func24, Try.ntmps24
        go_wp2_with (go_at_call 34; refine (sameInts_any o.links p.links _ _ _ _ _ (ho.1.below (hb1 _ _ (hb1 _ _ hb0))) (hp.1.below (hb1 _ _ (hb1 _ _ hb0)))).mono ?_; rintro e w' ⟨rfl, hb2⟩)
        go_ret
        exact ⟨by rw [Hd.out, e1, e2, e3]; rfl, below_next (hb1 _ _ (hb1 _ _ hb0)) hb2⟩

/-- a store comes back, in new memory -/
def RetStore (w w' : World) (e : Ending) (l : List Obj) : Prop := ∃ v, e = .returned v ∧ StoreV (fun b => w.heap.size ≤ b) w' v l ∧ Below w.heap.size w w'
def tee : ByteArray := ⟨#[116]⟩
def shelfL : List Obj := [⟨1, 1, [], tee⟩, ⟨2, 2, [1], tee⟩, ⟨3, 3, [2], tee⟩, ⟨4, 2, [1, 2], tee⟩, ⟨5, 3, [4, 3], tee⟩]

set_option maxHeartbeats 1000000 in
theorem obj_any (id kind : Int) (a : Option Addr) (n c : Nat) (w : World) :
    Calls Try.prog 52 #[.int .i64 id, .int .i64 kind, .slice a n c] w
      fun e w' => e = .returned (.agg #[.int .i64 id, .int .i64 kind, .slice a n c, .string tee]) ∧ Below w.heap.size w w' := by
  go_enter Try.func52, Try.ntmps52
  go_wp2
  exact bodyPost_ret (v := .agg #[.int .i64 id, .int .i64 kind, .slice a n c, .string tee]) (by simp [results, Try.results52, go_sem]; rfl) rfl ⟨rfl, by simpa using ((Below.refl _ _).alloc (Nat.le_refl _) _)⟩

theorem small64 (x : Int) (h : 0 ≤ x ∧ x ≤ 1000) : I64 x := by unfold I64; omega

theorem shelf_end {w w1 w2 w3 w4 w5 : World} {t tt : TypeId} (hb1 : Below w.heap.size w w1)
    (hb2 : Below (w1.alloc (.cells #[.int .i64 1] t)).heap.size (w1.alloc (.cells #[.int .i64 1] t)) w2)
    (hb3 : Below (w2.alloc (.cells #[.int .i64 2] t)).heap.size (w2.alloc (.cells #[.int .i64 2] t)) w3)
    (hb4 : Below (w3.alloc (.cells #[.int .i64 1, .int .i64 2] t)).heap.size (w3.alloc (.cells #[.int .i64 1, .int .i64 2] t)) w4)
    (hb5 : Below (w4.alloc (.cells #[.int .i64 4, .int .i64 3] t)).heap.size (w4.alloc (.cells #[.int .i64 4, .int .i64 3] t)) w5) :
    StoreV (fun b => w.heap.size ≤ b) (w5.alloc (.cells #[.int .i64 1, .int .i64 1, .slice none 0 0, .string tee, .int .i64 2, .int .i64 2, .slice (some ⟨w1.heap.size, 0, none⟩) 1 1, .string tee,
        .int .i64 3, .int .i64 3, .slice (some ⟨w2.heap.size, 0, none⟩) 1 1, .string tee, .int .i64 4, .int .i64 2, .slice (some ⟨w3.heap.size, 0, none⟩) 2 2, .string tee,
        .int .i64 5, .int .i64 3, .slice (some ⟨w4.heap.size, 0, none⟩) 2 2, .string tee] tt)) (.slice (some ⟨w5.heap.size, 0, none⟩) 5 5) shelfL ∧ Below w.heap.size w w5 := by
  have a2 := (Below.refl w1.heap.size w1).alloc (Nat.le_refl _) (.cells #[.int .i64 1] t)
  have a3 := (Below.refl w2.heap.size w2).alloc (Nat.le_refl _) (.cells #[.int .i64 2] t)
  have a4 := (Below.refl w3.heap.size w3).alloc (Nat.le_refl _) (.cells #[.int .i64 1, .int .i64 2] t)
  have a5 := (Below.refl w4.heap.size w4).alloc (Nat.le_refl _) (.cells #[.int .i64 4, .int .i64 3] t)
  have c2 := below_next hb1 (below_next a2 hb2)
  have c3 := below_next c2 (below_next a3 hb3)
  have c4 := below_next c3 (below_next a4 hb4)
  have c5 := below_next c4 (below_next a5 hb5)
  have s1 := hb1.size
  have s2 := c2.size
  have s3 := c3.size
  have s4 := c4.size
  have s5 := c5.size
  have i1 := ((((ints_new w1 [1] t _ rfl (by simp) (by intro x hx; simp only [List.mem_cons, List.not_mem_nil, or_false] at hx; subst hx; exact small64 _ (by omega))).below hb2).below (below_next a3 hb3)).below (below_next a4 hb4)).below (below_next a5 hb5)
  have i2 := (((ints_new w2 [2] t _ rfl (by simp) (by intro x hx; simp only [List.mem_cons, List.not_mem_nil, or_false] at hx; subst hx; exact small64 _ (by omega))).below hb3).below (below_next a4 hb4)).below (below_next a5 hb5)
  have i3 := ((ints_new w3 [1, 2] t _ rfl (by simp) (by intro x hx; simp only [List.mem_cons, List.not_mem_nil, or_false] at hx; rcases hx with rfl | rfl <;> exact small64 _ (by omega))).below hb4).below (below_next a5 hb5)
  have i4 := (ints_new w4 [4, 3] t _ rfl (by simp) (by intro x hx; simp only [List.mem_cons, List.not_mem_nil, or_false] at hx; rcases hx with rfl | rfl <;> exact small64 _ (by omega))).below hb5
  refine ⟨?_, c5⟩
  have h := store_new (S := fun b => w.heap.size ≤ b) w5 shelfL (fun i => [.slice none 0 0, .slice (some ⟨w1.heap.size, 0, none⟩) 1 1, .slice (some ⟨w2.heap.size, 0, none⟩) 1 1, .slice (some ⟨w3.heap.size, 0, none⟩) 2 2, .slice (some ⟨w4.heap.size, 0, none⟩) 2 2].getD i .nilFunc) tt _ rfl (by decide) (fun i hi => ?_)
  · exact h.weaken fun b hb => by rcases hb with rfl | hb; exact s5; exact hb
  · have ht : tee.size ≤ 140737488351232 := by decide
    match i, hi with
    | 0, _ => exact ⟨IntsV.nil _ _ _ _ (by omega), small64 _ (by decide), small64 _ (by decide), ht⟩
    | 1, _ => exact ⟨i1.weaken fun b hb => by subst hb; exact s1, small64 _ (by decide), small64 _ (by decide), ht⟩
    | 2, _ => exact ⟨i2.weaken fun b hb => by subst hb; exact s2, small64 _ (by decide), small64 _ (by decide), ht⟩
    | 3, _ => exact ⟨i3.weaken fun b hb => by subst hb; exact s3, small64 _ (by decide), small64 _ (by decide), ht⟩
    | 4, _ => exact ⟨i4.weaken fun b hb => by subst hb; exact s4, small64 _ (by decide), small64 _ (by decide), ht⟩

set_option maxHeartbeats 1000000 in
theorem shelf_any (w : World) : Calls Try.prog 51 #[] w fun e w' => RetStore w w' e shelfL := by
  go_enter Try.func51, Try.ntmps51
  go_wp2_with fail
  refine (obj_any _ _ _ _ _ _).mono ?_; rintro e w1 ⟨rfl, hb1⟩
  go_wp2_with fail
  refine (obj_any _ _ _ _ _ _).mono ?_; rintro e w2 ⟨rfl, hb2⟩
  go_wp2_with fail
  refine (obj_any _ _ _ _ _ _).mono ?_; rintro e w3 ⟨rfl, hb3⟩
  go_wp2_with fail
  refine (obj_any _ _ _ _ _ _).mono ?_; rintro e w4 ⟨rfl, hb4⟩
  go_wp2_with fail
  refine (obj_any _ _ _ _ _ _).mono ?_; rintro e w5 ⟨rfl, hb5⟩
  have HE := Lib.hid (shelf_end (tt := 24) hb1 hb2 hb3 hb4 hb5)
  clear hb1 hb2 hb3 hb4 hb5
  go_wp2
  go_ret
  exact ⟨_, rfl, HE.out.1, HE.out.2.alloc HE.out.2.size _⟩

end Go.Proofs.Ytcppgkhkijejoaa
