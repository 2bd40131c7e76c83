/- Walks: the law ObjectApart. -/
import Derived.Test.YtcppgkhkijejoaaBegun1
import Derived.Test.YtcppgkhkijejoaaBack
namespace Go.Proofs.Ytcppgkhkijejoaa
open Go.RowKit
set_option linter.unusedVariables false
set_option linter.unusedSimpArgs false

theorem encode_ok (o : Obj) (lv : Value) (S : Nat → Prop) (w : World) (ho : ObjIs S w o lv) (h : checkObj o = 0) :
    Calls Try.prog 19 #[.agg #[.int .i64 o.id, .int .i64 o.kind, lv, .string o.text]] w fun e w' => e = .returned (.tuple #[.string (encB o), .int .i64 0]) ∧ Below w.heap.size w w' := by
  have hE := encode_any o lv S w ho
  unfold encE at hE
  rw [if_pos h, h] at hE
  exact hE
theorem encode_bad (o : Obj) (lv : Value) (S : Nat → Prop) (w : World) (ho : ObjIs S w o lv) (h : checkObj o ≠ 0) :
    Calls Try.prog 19 #[.agg #[.int .i64 o.id, .int .i64 o.kind, lv, .string o.text]] w fun e w' => e = .returned (.tuple #[.string ⟨#[]⟩, .int .i64 (checkObj o)]) ∧ Below w.heap.size w w' := by
  have hE := encode_any o lv S w ho
  unfold encE at hE
  rw [if_neg h] at hE
  exact hE

theorem ret_bool' {a b : Bool} (h : a = b) : Ending.returned (.bool a) = .returned (.bool b) := by rw [h]

/-- two boxes, which nobody writes any more -/
theorem cls_box44 (w : World) (u0 u1 u2 u3 v0 v1 v2 v3 : Value) (t : TypeId) : ∃ R : World → Prop, Cls w R ∧ In R ((w.alloc (.cells #[u0, u1, u2, u3] t)).alloc (.cells #[v0, v1, v2, v3] t)) ∧
    (∀ x, In R x → x.cell? ⟨w.heap.size, 0, none⟩ = some u0) ∧ (∀ x, In R x → x.cell? ⟨w.heap.size, 1, none⟩ = some u1) ∧
    (∀ x, In R x → x.cell? ⟨w.heap.size, 2, none⟩ = some u2) ∧ (∀ x, In R x → x.cell? ⟨w.heap.size, 3, none⟩ = some u3) ∧
    (∀ x, In R x → x.cell? ⟨w.heap.size + 1, 0, none⟩ = some v0) ∧ (∀ x, In R x → x.cell? ⟨w.heap.size + 1, 1, none⟩ = some v1) ∧
    (∀ x, In R x → x.cell? ⟨w.heap.size + 1, 2, none⟩ = some v2) ∧ (∀ x, In R x → x.cell? ⟨w.heap.size + 1, 3, none⟩ = some v3) := by
  have hw : Below w.heap.size w ((w.alloc (.cells #[u0, u1, u2, u3] t)).alloc (.cells #[v0, v1, v2, v3] t)) := ((Below.refl _ _).alloc (Nat.le_refl _) _).alloc (by simp) _
  have ku : ((w.alloc (.cells #[u0, u1, u2, u3] t)).alloc (.cells #[v0, v1, v2, v3] t)).heap[w.heap.size]? = some (.cells #[u0, u1, u2, u3] t (0, 0)) :=
    (Below.heap_alloc _ _ _ (by simp)).trans (heap_alloc_new w _)
  have kv : ((w.alloc (.cells #[u0, u1, u2, u3] t)).alloc (.cells #[v0, v1, v2, v3] t)).heap[w.heap.size + 1]? = some (.cells #[v0, v1, v2, v3] t (0, 0)) := by
    have := heap_alloc_new (w.alloc (.cells #[u0, u1, u2, u3] t)) (.cells #[v0, v1, v2, v3] t)
    rwa [World.size_alloc] at this
  have hu := fun (j : Nat) (v : Value) (hv : (#[u0, u1, u2, u3] : Array Value)[j]? = some v) (x : World) (hx : In (fun x => Below (w.heap.size + 2) ((w.alloc (.cells #[u0, u1, u2, u3] t)).alloc (.cells #[v0, v1, v2, v3] t)) x) x) =>
    (show x.cell? ⟨w.heap.size, j, none⟩ = some v from (Below.cell hx (p := ⟨w.heap.size, j, none⟩) (by simp)).trans (block_cell ku hv))
  have hv := fun (j : Nat) (v : Value) (hv : (#[v0, v1, v2, v3] : Array Value)[j]? = some v) (x : World) (hx : In (fun x => Below (w.heap.size + 2) ((w.alloc (.cells #[u0, u1, u2, u3] t)).alloc (.cells #[v0, v1, v2, v3] t)) x) x) =>
    (show x.cell? ⟨w.heap.size + 1, j, none⟩ = some v from (Below.cell hx (p := ⟨w.heap.size + 1, j, none⟩) (by simp)).trans (block_cell kv hv))
  exact ⟨_, cls_of w _ (w.heap.size + 2) (by omega) (by simp) hw, Below.refl _ _, hu 0 u0 rfl, hu 1 u1 rfl, hu 2 u2 rfl, hu 3 u3 rfl, hv 0 v0 rfl, hv 1 v1 rfl, hv 2 v2 rfl, hv 3 v3 rfl⟩

set_option maxRecDepth 100000 in
set_option maxHeartbeats 1500000 in
theorem objectApart_any (a b : Obj) (la lb : Value) (S : Nat → Prop) (w : World) (ha : ObjIs S w a la) (hb : ObjIs S w b lb) :
    Calls Try.prog 6 #[.agg #[.int .i64 a.id, .int .i64 a.kind, la, .string a.text], .agg #[.int .i64 b.id, .int .i64 b.kind, lb, .string b.text]] w fun e w' => e = .returned (.bool true) ∧ Below w.heap.size w w' := by
  obtain ⟨⟨p, c⟩, rfl⟩ := ha.1.shape
  obtain ⟨⟨p', c'⟩, rfl⟩ := hb.1.shape
  obtain ⟨R, hR, hR1, hx0, hx1, hx2, hx3, hy0, hy1, hy2, hy3⟩ := cls_box44 w (.int .i64 a.id) (.int .i64 a.kind) (.slice p a.links.length c) (.string a.text) (.int .i64 b.id) (.int .i64 b.kind) (.slice p' b.links.length c') (.string b.text) 24
  have hRb := hR.below
  have hRn := hR.next
  have hRd := hR.drew
  have hRdn := hR.drewN
  by_cases hza : checkObj a = 0
  · by_cases hzb : checkObj b = 0
    · by_cases hs : (encB a).size ≤ (encB b).size
      · have Hl := Lib.hid (enc_apart hza hzb hs)
        have hea := fun x hx => encode_ok a _ S x (ha.below (hRb x hx)) hza
        have heb := fun x hx => encode_ok b _ S x (hb.below (hRb x hx)) hzb
        have Hea := Lib.hid hea; have Heb := Lib.hid heb
        clear hea heb hza hzb
        go_enter Try.func6, Try.ntmps6
        go_wp2_with fail
        refine (Hea.out _ hR1).mono ?_
        rintro e w2 ⟨rfl, hb2⟩
        have hR2 := hRn _ _ hR1 hb2
        go_wp2_with fail
        refine (Heb.out _ hR2).mono ?_
        rintro e w3 ⟨rfl, hb3⟩
        have hR3 := hRn _ _ hR2 hb3
        go_wp2_with fail
        refine (objectBegun_any _).mono ?_
        rintro e w4 ⟨rfl, hb4⟩
        have hR4 := hRn _ _ hR3 hb4
        clear hb2 hb3 hb4
        go_wp2_with fail
        have hRg := cls_grown hR
        refine wp_region_quiet_below (by kernel_rfl) (by kernel_rfl) ?_
        repeat (quiet_step (exact Calls.regrown_of (sameObject_any a b _ _ S S _ (ha.below (hRb _ (hRg _ _ _ hR4))) (hb.below (hRb _ (hRg _ _ _ hR4))))))
        refine wpQuiet_nil ?_
        intro _ hw'
        obtain ⟨⟨dq, osq⟩, hw''⟩ := hw'
        subst hw''
        have hR5 := hRg _ dq osq hR4
        generalize Go.Sort.grow (redrawn w4 dq) osq = w5 at hR5 ⊢
        go_wp2
        go_ret
        refine ⟨ret_bool' ?_, hRb _ hR5⟩
        have h := Hl.out
        unfold sub at h
        rw [Nat.zero_add] at h
        rw [text_eq, h]
        simp
      · have Hea := Lib.hid (fun x hx => encode_ok a _ S x (ha.below (hRb x hx)) hza)
        have Heb := Lib.hid (fun x hx => encode_ok b _ S x (hb.below (hRb x hx)) hzb)
        clear hza hzb
        go_enter Try.func6, Try.ntmps6
        go_wp2_with fail
        refine (Hea.out _ hR1).mono ?_
        rintro e w2 ⟨rfl, hb2⟩
        have hR2 := hRn _ _ hR1 hb2
        go_wp2_with fail
        refine (Heb.out _ hR2).mono ?_
        rintro e w3 ⟨rfl, hb3⟩
        have hR3 := hRn _ _ hR2 hb3
        go_wp2_with fail
        refine (objectBegun_any _).mono ?_
        rintro e w4 ⟨rfl, hb4⟩
        have hR4 := hRn _ _ hR3 hb4
        clear hb2 hb3 hb4
        go_wp2_with fail
        go_ret
        exact ⟨rfl, hRb _ hR4⟩
    · have hzb' : (checkObj b == 0) = false := by simpa using hzb
      have Hea := Lib.hid (fun x hx => encode_ok a _ S x (ha.below (hRb x hx)) hza)
      have Heb := Lib.hid (fun x hx => encode_bad b _ S x (hb.below (hRb x hx)) hzb)
      clear hza
      have hzn : (checkObj b != 0) = true := by simpa using hzb
      go_enter Try.func6, Try.ntmps6
      go_wp2_with fail
      refine (Hea.out _ hR1).mono ?_
      rintro e w2 ⟨rfl, hb2⟩
      have hR2 := hRn _ _ hR1 hb2
      go_wp2_with fail
      refine (Heb.out _ hR2).mono ?_
      rintro e w3 ⟨rfl, hb3⟩
      have hR3 := hRn _ _ hR2 hb3
      go_wp2_with fail
      refine (objectBegun_any _).mono ?_
      rintro e w4 ⟨rfl, hb4⟩
      have hR4 := hRn _ _ hR3 hb4
      clear hb2 hb3 hb4
      go_wp2_with fail
      go_ret
      exact ⟨rfl, hRb _ hR4⟩
  · have hza' : (checkObj a == 0) = false := by simpa using hza
    by_cases hzb : checkObj b = 0
    · have Hea := Lib.hid (fun x hx => encode_bad a _ S x (ha.below (hRb x hx)) hza)
      have Heb := Lib.hid (fun x hx => encode_ok b _ S x (hb.below (hRb x hx)) hzb)
      clear hzb
      have hzn : (checkObj a != 0) = true := by simpa using hza
      go_enter Try.func6, Try.ntmps6
      go_wp2_with fail
      refine (Hea.out _ hR1).mono ?_
      rintro e w2 ⟨rfl, hb2⟩
      have hR2 := hRn _ _ hR1 hb2
      go_wp2_with fail
      refine (Heb.out _ hR2).mono ?_
      rintro e w3 ⟨rfl, hb3⟩
      have hR3 := hRn _ _ hR2 hb3
      go_wp2_with fail
      refine (objectBegun_any _).mono ?_
      rintro e w4 ⟨rfl, hb4⟩
      have hR4 := hRn _ _ hR3 hb4
      clear hb2 hb3 hb4
      go_wp2_with fail
      go_ret
      exact ⟨rfl, hRb _ hR4⟩
    · have hzb' : (checkObj b == 0) = false := by simpa using hzb
      have Hea := Lib.hid (fun x hx => encode_bad a _ S x (ha.below (hRb x hx)) hza)
      have Heb := Lib.hid (fun x hx => encode_bad b _ S x (hb.below (hRb x hx)) hzb)
      have hzn : (checkObj a != 0) = true := by simpa using hza
      have hzm : (checkObj b != 0) = true := by simpa using hzb
      go_enter Try.func6, Try.ntmps6
      go_wp2_with fail
      refine (Hea.out _ hR1).mono ?_
      rintro e w2 ⟨rfl, hb2⟩
      have hR2 := hRn _ _ hR1 hb2
      go_wp2_with fail
      refine (Heb.out _ hR2).mono ?_
      rintro e w3 ⟨rfl, hb3⟩
      have hR3 := hRn _ _ hR2 hb3
      go_wp2_with fail
      refine (objectBegun_any _).mono ?_
      rintro e w4 ⟨rfl, hb4⟩
      have hR4 := hRn _ _ hR3 hb4
      clear hb2 hb3 hb4
      go_wp2_with fail
      go_ret
      exact ⟨rfl, hRb _ hR4⟩
end Go.Proofs.Ytcppgkhkijejoaa
