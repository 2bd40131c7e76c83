
/- ObjA: Obj1, Obj2, Obj3, Obj4, Obj5, Obj6. -/
import Derived.Test.YtjdgpgfiomnjkaaGreatDoorRows
import Derived.Test.YtjdgpgfiomnjkaaGreatDoorM0
import Derived.Deep.DeepCutAuto
namespace Go.Proofs.YtjdgpgfiomnjkaaGreatDoor
open Go.RowKit
set_option linter.unusedVariables false
set_option linter.unusedSimpArgs false
set_option maxHeartbeats 400000 in
theorem within_any (n lo hi : Int) (w : World) :
  Calls Tryz.prog 129 #[.int .i64 n, .int .i64 lo, .int .i64 hi] w fun e w' => e = .returned (.bool (within n lo hi)) ∧ w = w' := by
 go_enter Tryz.func129, Tryz.ntmps129
 go_wp2
 all_goals go_ret
 all_goals (refine ⟨?_, rfl⟩; simp [within, *])
 omega
theorem ret_int {k : IntKind} {a b : Int} (h : a = b) : Ending.returned (.int k a) = .returned (.int k b) := by rw [h]
theorem ite_kind {n : Int} {b : Bool} (h : (n == 3) = b) : (if n = 3 then 2 else 1) = (if b then 2 else 1) := by
 have : (n == 3) = decide (n = 3) := rfl
 rw [← h, this]; by_cases hn : n = 3 <;> simp [hn]
theorem formBad_eq (o : Obj) : formBad o = ((o.kind == 1 && decide (0 < o.links.length)) || (o.kind == 3 && decide (o.links.length < 1))) := by
 have h1 : (o.kind == 1) = decide (o.kind = 1) := rfl
 have h3 : (o.kind == 3) = decide (o.kind = 3) := rfl
 have h4 : decide (o.links.length < 1) = decide (o.links.length = 0) := by rw [decide_eq_decide]; omega
 rw [h1, h3, h4]; rfl
set_option maxHeartbeats 1000000 in
theorem links_any (o : Obj) (lv : Value) (S : Nat → Prop) (w : World) (ho : ObjIs S w o lv) (hi : within o.id 1 99 = true) :
  Calls Tryz.prog 130 #[.agg #[.int .i64 o.id, .int .i64 o.kind, lv, .string o.text]] w fun e w' => e = .returned (.int .i64 (linksErr o)) ∧ Below w.heap.size w w' := by
 obtain ⟨a, n, cap, HN, rfl, hc1, hc2, hc8, hc⟩ := ho.1.open
 have hid := within_true hi
 have hb0 : Below w.heap.size w w := Below.refl _ _
 have hb1 := below_alloc w
 have Hfb := Lib.hid (formBad_eq o)
 clear hi
 cases hk3 : (o.kind == 3)
 ·have Hk3 := Lib.hid hk3
  go_enter Tryz.func130, Tryz.ntmps130
  go_wp2
  go_loopw [12] (fun i wr => ∃ k : Nat, k ≤ n ∧ i = .int .i64 k ∧ scan (linkBad o) k = 0 ∧ wr = w.alloc (.cells #[.int .i64 o.id, .int .i64 o.kind, .slice a n cap, .string o.text] 46)) (fun i _ => n - (intOf i).toNat)
  case atStart => exact ⟨0, by omega, rfl, rfl, rfl⟩
  case round =>
   obtain ⟨k, hk, rfl, hs, rfl⟩ := hrel
   have Hsc := Lib.hid hs; clear hs
   by_cases hlt : k < n
   ·obtain ⟨b, off, rfl, hb, hcell⟩ := hc (by omega)
    clear hc
    cases hw : within (nth o.links k) 1 (o.id - 1)
    ·go_wp2_with (go_at_call 129; refine (within_any _ _ _ _).mono ?_; rintro e w' ⟨rfl, rfl⟩)
     go_ret
     exact ⟨ret_int (linksErr_bad Hsc.out (linkBad_range hw) (by omega) (by have := HN.out; omega)).symm, hb1 _ _ hb0⟩
    ·have Hst := Lib.hid (linkBad_state hw)
     have Hokk := Lib.hid (linkBad_ok hw)
     have hsp : (if o.kind = 3 then 2 else 1) = 1 := ite_kind Hk3.out
     have hkm : 1 ≤ k → ∀ x, Below w.heap.size w x → x.cell? ⟨b, off + (k - 1), none⟩ = some (.int .i64 (nth o.links (k - 1))) := fun _ x hx => hcell (k - 1) x (by omega) hx
     rw [hsp] at Hst Hokk
     clear hsp
     by_cases hf : 1 ≤ k
     ·have hkm' := hkm (by omega)
      clear hkm
      by_cases hle : nth o.links k ≤ nth o.links (k - 1)
      ·go_wp2_with (go_at_call 129; refine (within_any _ _ _ _).mono ?_; rintro e w' ⟨rfl, rfl⟩)
       go_ret
       exact ⟨ret_int (linksErr_bad Hsc.out (Hst.out hf hle) (by omega) (by have := HN.out; omega)).symm, hb1 _ _ hb0⟩
      ·go_wp2_with (go_at_call 129; refine (within_any _ _ _ _).mono ?_; rintro e w' ⟨rfl, rfl⟩)
       go_roundw
       case rel => exact ⟨k + 1, by omega, by go_num, scan_next Hsc.out (Hokk.out (by omega)), trivial⟩
       case measure => simp [intOf]; omega
     ·clear hkm
      go_wp2_with (go_at_call 129; refine (within_any _ _ _ _).mono ?_; rintro e w' ⟨rfl, rfl⟩)
      go_roundw
      case rel => exact ⟨k + 1, by omega, by go_num, scan_next Hsc.out (Hokk.out (by omega)), trivial⟩
      case measure => simp [intOf]; omega
   ·obtain rfl : k = n := by omega
    have hz : scan (linkBad o) o.links.length = 0 := by rw [← HN.out]; exact Hsc.out
    have hnn : (k < 1 ∧ Hid (decide (0 < o.links.length) = false ∧ decide (o.links.length < 1) = true)) ∨ (0 < k ∧ Hid (decide (0 < o.links.length) = true ∧ decide (o.links.length < 1) = false)) := by
     rw [← HN.out]; unfold Hid; simp only [decide_eq_true_eq, decide_eq_false_iff_not]; omega
    have Hok := Lib.hid (linksErr_ok hz)
    have Hbad := Lib.hid (linksErr_form hz); clear hz
    cases hk1 : (o.kind == 1) <;> rcases hnn with ⟨hnn, Hd⟩ | ⟨hnn, Hd⟩
    all_goals
     go_wp2
     go_ret
     refine ⟨?_, hb1 _ _ hb0⟩
     first
      | exact ret_int (Hok.out (by rw [Hfb.out, Hk3.out, hk1, Hd.out.1, Hd.out.2]; rfl)).symm
      | exact ret_int (Hbad.out (by rw [Hfb.out, Hk3.out, hk1, Hd.out.1, Hd.out.2]; rfl)).symm
 ·have Hk3 := Lib.hid hk3
  go_enter Tryz.func130, Tryz.ntmps130
  go_wp2
  go_loopw [12] (fun i wr => ∃ k : Nat, k ≤ n ∧ i = .int .i64 k ∧ scan (linkBad o) k = 0 ∧ wr = w.alloc (.cells #[.int .i64 o.id, .int .i64 o.kind, .slice a n cap, .string o.text] 46)) (fun i _ => n - (intOf i).toNat)
  case atStart => exact ⟨0, by omega, rfl, rfl, rfl⟩
  case round =>
   obtain ⟨k, hk, rfl, hs, rfl⟩ := hrel
   have Hsc := Lib.hid hs; clear hs
   by_cases hlt : k < n
   ·obtain ⟨b, off, rfl, hb, hcell⟩ := hc (by omega)
    clear hc
    cases hw : within (nth o.links k) 1 (o.id - 1)
    ·go_wp2_with (go_at_call 129; refine (within_any _ _ _ _).mono ?_; rintro e w' ⟨rfl, rfl⟩)
     go_ret
     exact ⟨ret_int (linksErr_bad Hsc.out (linkBad_range hw) (by omega) (by have := HN.out; omega)).symm, hb1 _ _ hb0⟩
    ·have Hst := Lib.hid (linkBad_state hw)
     have Hokk := Lib.hid (linkBad_ok hw)
     have hsp : (if o.kind = 3 then 2 else 1) = 2 := ite_kind Hk3.out
     have hkm : 1 ≤ k → ∀ x, Below w.heap.size w x → x.cell? ⟨b, off + (k - 1), none⟩ = some (.int .i64 (nth o.links (k - 1))) := fun _ x hx => hcell (k - 1) x (by omega) hx
     rw [hsp] at Hst Hokk
     clear hsp
     by_cases hf : 2 ≤ k
     ·have hkm' := hkm (by omega)
      clear hkm
      by_cases hle : nth o.links k ≤ nth o.links (k - 1)
      ·go_wp2_with (go_at_call 129; refine (within_any _ _ _ _).mono ?_; rintro e w' ⟨rfl, rfl⟩)
       go_ret
       exact ⟨ret_int (linksErr_bad Hsc.out (Hst.out hf hle) (by omega) (by have := HN.out; omega)).symm, hb1 _ _ hb0⟩
      ·go_wp2_with (go_at_call 129; refine (within_any _ _ _ _).mono ?_; rintro e w' ⟨rfl, rfl⟩)
       go_roundw
       case rel => exact ⟨k + 1, by omega, by go_num, scan_next Hsc.out (Hokk.out (by omega)), trivial⟩
       case measure => simp [intOf]; omega
     ·clear hkm
      go_wp2_with (go_at_call 129; refine (within_any _ _ _ _).mono ?_; rintro e w' ⟨rfl, rfl⟩)
      go_roundw
      case rel => exact ⟨k + 1, by omega, by go_num, scan_next Hsc.out (Hokk.out (by omega)), trivial⟩
      case measure => simp [intOf]; omega
   ·obtain rfl : k = n := by omega
    have hz : scan (linkBad o) o.links.length = 0 := by rw [← HN.out]; exact Hsc.out
    have hnn : (k < 1 ∧ Hid (decide (0 < o.links.length) = false ∧ decide (o.links.length < 1) = true)) ∨ (0 < k ∧ Hid (decide (0 < o.links.length) = true ∧ decide (o.links.length < 1) = false)) := by
     rw [← HN.out]; unfold Hid; simp only [decide_eq_true_eq, decide_eq_false_iff_not]; omega
    have Hok := Lib.hid (linksErr_ok hz)
    have Hbad := Lib.hid (linksErr_form hz); clear hz
    cases hk1 : (o.kind == 1) <;> rcases hnn with ⟨hnn, Hd⟩ | ⟨hnn, Hd⟩
    all_goals
     go_wp2
     go_ret
     refine ⟨?_, hb1 _ _ hb0⟩
     first
      | exact ret_int (Hok.out (by rw [Hfb.out, Hk3.out, hk1, Hd.out.1, Hd.out.2]; rfl)).symm
      | exact ret_int (Hbad.out (by rw [Hfb.out, Hk3.out, hk1, Hd.out.1, Hd.out.2]; rfl)).symm
end Go.Proofs.YtjdgpgfiomnjkaaGreatDoor
namespace Go.Proofs.YtjdgpgfiomnjkaaGreatDoor
open Go.RowKit
set_option linter.unusedVariables false
set_option linter.unusedSimpArgs false
set_option maxHeartbeats 1000000 in
theorem check_any (o : Obj) (lv : Value) (S : Nat → Prop) (w : World) (ho : ObjIs S w o lv) :
  Calls Tryz.prog 67 #[.agg #[.int .i64 o.id, .int .i64 o.kind, lv, .string o.text]] w fun e w' => e = .returned (.int .i64 (checkObj o)) ∧ Below w.heap.size w w' := by
 have ho' := ho
 obtain ⟨a, n, cap, HN, rfl, hc1, hc2, hc8, hc⟩ := ho.1.open
 have htx : o.text.size ≤ 140737488351232 := ho.2.2.2
 have hb0 : Below w.heap.size w w := Below.refl _ _
 have hb1 := below_alloc w
 have Hc := Lib.hid (show checkObj o = if within o.id 1 99 = false then 3 else if within o.kind 1 3 = false then 7 else if 4 < n ∨ 8 < o.text.size then 2 else linksErr o by rw [HN.out]; rfl)
 clear hc
 cases hw1 : within o.id 1 99
 ·go_enter Tryz.func67, Tryz.ntmps67
  go_wp2_with (go_at_call 129; refine (within_any _ _ _ _).mono ?_; rintro e w' ⟨rfl, rfl⟩)
  go_ret
  exact ⟨ret_int (by rw [Hc.out]; simp [hw1]), hb1 _ _ hb0⟩
 ·cases hw2 : within o.kind 1 3
  ·go_enter Tryz.func67, Tryz.ntmps67
   go_wp2_with (go_at_call 129; refine (within_any _ _ _ _).mono ?_; rintro e w' ⟨rfl, rfl⟩)
   go_ret
   exact ⟨ret_int (by rw [Hc.out]; simp [hw1, hw2]), hb1 _ _ hb0⟩
  ·by_cases h4 : 4 < n
   ·go_enter Tryz.func67, Tryz.ntmps67
    go_wp2_with (go_at_call 129; refine (within_any _ _ _ _).mono ?_; rintro e w' ⟨rfl, rfl⟩)
    go_ret
    exact ⟨ret_int (by rw [Hc.out]; simp [hw1, hw2, h4]), hb1 _ _ hb0⟩
   ·by_cases h8 : 8 < o.text.size
    ·go_enter Tryz.func67, Tryz.ntmps67
     go_wp2_with (go_at_call 129; refine (within_any _ _ _ _).mono ?_; rintro e w' ⟨rfl, rfl⟩)
     go_ret
     exact ⟨ret_int (by rw [Hc.out]; simp [hw1, hw2, h8]), hb1 _ _ hb0⟩
    ·go_enter Tryz.func67, Tryz.ntmps67
     go_wp2_with (first
      | (go_at_call 129; refine (within_any _ _ _ _).mono ?_; rintro e w' ⟨rfl, rfl⟩)
      | (go_at_call 130; refine (links_any o _ _ _ (ho'.below (hb1 _ _ hb0)) hw1).mono ?_; rintro e w' ⟨rfl, hb2⟩))
     go_ret
     exact ⟨ret_int (by rw [Hc.out]; simp [hw1, hw2, h4, h8]), below_next (hb1 _ _ hb0) hb2⟩
end Go.Proofs.YtjdgpgfiomnjkaaGreatDoor
namespace Go.Proofs.YtjdgpgfiomnjkaaGreatDoor
open Go.RowKit
set_option linter.unusedVariables false
set_option linter.unusedSimpArgs false
theorem Tryz.infoByte : (Tryz.prog.info? 5).map (fun i => (i.zero, i.size, i.bytes)) = some (some (.int .u8 0), 1, 1) := by kernel_rfl
end Go.Proofs.YtjdgpgfiomnjkaaGreatDoor
namespace Go.Proofs.YtjdgpgfiomnjkaaGreatDoor
open Go.RowKit
set_option linter.unusedVariables false
set_option linter.unusedSimpArgs false
end Go.Proofs.YtjdgpgfiomnjkaaGreatDoor
namespace Go.Proofs.YtjdgpgfiomnjkaaGreatDoor
open Go.RowKit
set_option linter.unusedVariables false
set_option linter.unusedSimpArgs false
set_option maxHeartbeats 1000000 in
theorem sameInts_any (xs ys : List Int) (v v' : Value) (S S' : Nat → Prop) (w : World) (h1 : IntsV S w v xs) (h2 : IntsV S' w v' ys) :
  Calls Tryz.prog 60 #[v, v'] w fun e w' => e = .returned (.bool (sameInts xs ys)) ∧ Below w.heap.size w w' := by
 obtain ⟨a, n, cap, HN, rfl, hc1, hc2, hc8, hc⟩ := h1.open
 obtain ⟨a', n', cap', HN', rfl, hc1', hc2', hc8', hc'⟩ := h2.open
 obtain ⟨R, hR, hR1, _⟩ := cls_plain w
 have hRb := hR.below
 have hRn := hR.drewN
 by_cases hl : n = n'
 ·subst hl
  have Hall := Lib.hid (sameInts_all (xs := xs) (ys := ys) (by rw [← HN.out, ← HN'.out]))
  go_enter Tryz.func60, Tryz.ntmps60
  go_wp2
  go_loopw [5] (fun i wr => ∃ k : Nat, k ≤ n ∧ i = .int .i64 k ∧ Hid (∀ j, j < k → nth xs j = nth ys j) ∧ In R wr) (fun i _ => n - (intOf i).toNat)
  case atStart => exact ⟨0, by omega, rfl, fun j hj => absurd hj (by omega), hR1⟩
  case round =>
   obtain ⟨k, hk, rfl, Hs, hRw⟩ := hrel
   clear hR1
   by_cases hlt : k < n
   ·obtain ⟨b, off, rfl, hb, hcell⟩ := hc (by omega)
    obtain ⟨b', off', rfl, hb', hcell'⟩ := hc' (by omega)
    have hck : ∀ x, In R x → x.cell? ⟨b, off + k, none⟩ = some (.int .i64 (nth xs k)) := fun x hx => hcell k x hlt (hRb x hx)
    have hck' : ∀ x, In R x → x.cell? ⟨b', off' + k, none⟩ = some (.int .i64 (nth ys k)) := fun x hx => hcell' k x hlt (hRb x hx)
    clear hc hc' hcell hcell'
    have hi1 : (0 : Int) ≤ (k : Int) := by omega
    have hi2 : (k : Int) < (n : Int) := by omega
    by_cases he : nth xs k = nth ys k
    ·have hq : (nth xs k != nth ys k) = false := by simpa using he
     have He := Lib.hid he; clear he
     go_wp2_with fail
     go_quiet (fail)
     go_wp2
     go_roundw
     case rel => exact ⟨k + 1, by omega, by go_num, all_next Hs.out He.out, hRn _ _ hRw⟩
     case measure => simp [intOf]; omega
    ·have hq : (nth xs k != nth ys k) = true := by simpa using he
     have Hq := Lib.hid (sameInts_at he); clear he
     go_wp2_with fail
     go_quiet (fail)
     go_wp2
     go_ret
     exact ⟨by rw [Hq.out]; rfl, hRb _ (hRn _ _ hRw)⟩
   ·have Hk := Lib.hid (show sameInts xs ys = true from Hall.out (fun j hj => Hs.out j (by have := HN.out; omega)))
    go_wp2
    go_ret
    exact ⟨by rw [Hk.out]; rfl, hRb _ hRw⟩
 ·have Hl := Lib.hid (sameInts_len (xs := xs) (ys := ys) (by rw [← HN.out, ← HN'.out]; exact hl))
  go_enter Tryz.func60, Tryz.ntmps60
  go_wp2
  go_ret
  exact ⟨by rw [Hl.out]; rfl, hRb _ hR1⟩
set_option maxHeartbeats 1000000 in
theorem sameObject_any (o p : Obj) (lv lv' : Value) (S S' : Nat → Prop) (w : World) (ho : ObjIs S w o lv) (hp : ObjIs S' w p lv') :
  Calls Tryz.prog 69 #[.agg #[.int .i64 o.id, .int .i64 o.kind, lv, .string o.text], .agg #[.int .i64 p.id, .int .i64 p.kind, lv', .string p.text]] w
   fun e w' => e = .returned (.bool (sameObj o p)) ∧ Below w.heap.size w w' := by
 obtain ⟨q, rfl⟩ := ho.1.shape
 obtain ⟨q', rfl⟩ := hp.1.shape
 have hb0 : Below w.heap.size w w := Below.refl _ _
 have hb1 := below_alloc w
 have Hd := Lib.hid (show sameObj o p = ((o.id == p.id) && (o.kind == p.kind) && (o.text.toList == p.text.toList) && sameInts o.links p.links) from rfl)
 cases e1 : (o.id == p.id)
 ·go_enter Tryz.func69, Tryz.ntmps69
  go_wp2
  go_ret
  exact ⟨by rw [Hd.out, e1]; rfl, hb1 _ _ (hb1 _ _ hb0)⟩
 ·cases e2 : (o.kind == p.kind)
  ·go_enter Tryz.func69, Tryz.ntmps69
   go_wp2
   go_ret
   exact ⟨by rw [Hd.out, e1, e2]; rfl, hb1 _ _ (hb1 _ _ hb0)⟩
  ·cases e3 : (o.text.toList == p.text.toList)
   ·go_enter Tryz.func69, Tryz.ntmps69
    go_wp2
    go_ret
    exact ⟨by rw [Hd.out, e1, e2, e3]; rfl, hb1 _ _ (hb1 _ _ hb0)⟩
   ·go_enter Tryz.func69, Tryz.ntmps69
    go_wp2_with (go_at_call 60; refine (sameInts_any o.links p.links _ _ _ _ _ (ho.1.below (hb1 _ _ (hb1 _ _ hb0))) (hp.1.below (hb1 _ _ (hb1 _ _ hb0)))).mono ?_; rintro e w' ⟨rfl, hb2⟩)
    go_ret
    exact ⟨by rw [Hd.out, e1, e2, e3]; rfl, below_next (hb1 _ _ (hb1 _ _ hb0)) hb2⟩
def RetStore (w w' : World) (e : Ending) (l : List Obj) : Prop := ∃ v, e = .returned v ∧ StoreV (fun b => w.heap.size ≤ b) w' v l ∧ Below w.heap.size w w'
def tee : ByteArray := ⟨#[116]⟩
def shelfL : List Obj := [⟨1, 1, [], tee⟩, ⟨2, 2, [1], tee⟩, ⟨3, 3, [2], tee⟩, ⟨4, 2, [1, 2], tee⟩, ⟨5, 3, [4, 3], tee⟩]
set_option maxHeartbeats 1000000 in
theorem obj_any (id kind : Int) (a : Option Addr) (n c : Nat) (w : World) :
  Calls Tryz.prog 68 #[.int .i64 id, .int .i64 kind, .slice a n c] w
   fun e w' => e = .returned (.agg #[.int .i64 id, .int .i64 kind, .slice a n c, .string tee]) ∧ Below w.heap.size w w' := by
 go_enter Tryz.func68, Tryz.ntmps68
 go_wp2
 exact bodyPost_ret (v := .agg #[.int .i64 id, .int .i64 kind, .slice a n c, .string tee]) (by simp [results, Tryz.results68, go_sem]; rfl) rfl ⟨rfl, by simpa using ((Below.refl _ _).alloc (Nat.le_refl _) _)⟩
theorem small64 (x : Int) (h : 0 ≤ x ∧ x ≤ 1000) : I64 x := by unfold I64; omega
theorem shelf_end {w w1 w2 w3 w4 w5 : World} {t tt : TypeId} (hb1 : Below w.heap.size w w1)
  (hb2 : Below (w1.alloc (.cells #[.int .i64 1] t)).heap.size (w1.alloc (.cells #[.int .i64 1] t)) w2)
  (hb3 : Below (w2.alloc (.cells #[.int .i64 2] t)).heap.size (w2.alloc (.cells #[.int .i64 2] t)) w3)
  (hb4 : Below (w3.alloc (.cells #[.int .i64 1, .int .i64 2] t)).heap.size (w3.alloc (.cells #[.int .i64 1, .int .i64 2] t)) w4)
  (hb5 : Below (w4.alloc (.cells #[.int .i64 4, .int .i64 3] t)).heap.size (w4.alloc (.cells #[.int .i64 4, .int .i64 3] t)) w5) :
  StoreV (fun b => w.heap.size ≤ b) (w5.alloc (.cells #[.int .i64 1, .int .i64 1, .slice none 0 0, .string tee, .int .i64 2, .int .i64 2, .slice (some ⟨w1.heap.size, 0, none⟩) 1 1, .string tee,
    .int .i64 3, .int .i64 3, .slice (some ⟨w2.heap.size, 0, none⟩) 1 1, .string tee, .int .i64 4, .int .i64 2, .slice (some ⟨w3.heap.size, 0, none⟩) 2 2, .string tee,
    .int .i64 5, .int .i64 3, .slice (some ⟨w4.heap.size, 0, none⟩) 2 2, .string tee] tt)) (.slice (some ⟨w5.heap.size, 0, none⟩) 5 5) shelfL ∧ Below w.heap.size w w5 := by
 have a2 := (Below.refl w1.heap.size w1).alloc (Nat.le_refl _) (.cells #[.int .i64 1] t)
 have a3 := (Below.refl w2.heap.size w2).alloc (Nat.le_refl _) (.cells #[.int .i64 2] t)
 have a4 := (Below.refl w3.heap.size w3).alloc (Nat.le_refl _) (.cells #[.int .i64 1, .int .i64 2] t)
 have a5 := (Below.refl w4.heap.size w4).alloc (Nat.le_refl _) (.cells #[.int .i64 4, .int .i64 3] t)
 have c2 := below_next hb1 (below_next a2 hb2)
 have c3 := below_next c2 (below_next a3 hb3)
 have c4 := below_next c3 (below_next a4 hb4)
 have c5 := below_next c4 (below_next a5 hb5)
 have s1 := hb1.size
 have s2 := c2.size
 have s3 := c3.size
 have s4 := c4.size
 have s5 := c5.size
 have i1 := ((((ints_new w1 [1] t _ rfl (by simp) (by intro x hx; simp only [List.mem_cons, List.not_mem_nil, or_false] at hx; subst hx; exact small64 _ (by omega))).below hb2).below (below_next a3 hb3)).below (below_next a4 hb4)).below (below_next a5 hb5)
 have i2 := (((ints_new w2 [2] t _ rfl (by simp) (by intro x hx; simp only [List.mem_cons, List.not_mem_nil, or_false] at hx; subst hx; exact small64 _ (by omega))).below hb3).below (below_next a4 hb4)).below (below_next a5 hb5)
 have i3 := ((ints_new w3 [1, 2] t _ rfl (by simp) (by intro x hx; simp only [List.mem_cons, List.not_mem_nil, or_false] at hx; rcases hx with rfl | rfl <;> exact small64 _ (by omega))).below hb4).below (below_next a5 hb5)
 have i4 := (ints_new w4 [4, 3] t _ rfl (by simp) (by intro x hx; simp only [List.mem_cons, List.not_mem_nil, or_false] at hx; rcases hx with rfl | rfl <;> exact small64 _ (by omega))).below hb5
 refine ⟨?_, c5⟩
 have h := store_new (S := fun b => w.heap.size ≤ b) w5 shelfL (fun i => [.slice none 0 0, .slice (some ⟨w1.heap.size, 0, none⟩) 1 1, .slice (some ⟨w2.heap.size, 0, none⟩) 1 1, .slice (some ⟨w3.heap.size, 0, none⟩) 2 2, .slice (some ⟨w4.heap.size, 0, none⟩) 2 2].getD i .nilFunc) tt _ rfl (by decide) (fun i hi => ?_)
 ·exact h.weaken fun b hb => by rcases hb with rfl | hb; exact s5; exact hb
 ·have ht : tee.size ≤ 140737488351232 := by decide
  match i, hi with
  | 0, _ => exact ⟨IntsV.nil _ _ _ _ (by omega), small64 _ (by decide), small64 _ (by decide), ht⟩
  | 1, _ => exact ⟨i1.weaken fun b hb => by subst hb; exact s1, small64 _ (by decide), small64 _ (by decide), ht⟩
  | 2, _ => exact ⟨i2.weaken fun b hb => by subst hb; exact s2, small64 _ (by decide), small64 _ (by decide), ht⟩
  | 3, _ => exact ⟨i3.weaken fun b hb => by subst hb; exact s3, small64 _ (by decide), small64 _ (by decide), ht⟩
  | 4, _ => exact ⟨i4.weaken fun b hb => by subst hb; exact s4, small64 _ (by decide), small64 _ (by decide), ht⟩
set_option maxHeartbeats 1000000 in
theorem shelf_any (w : World) : Calls Tryz.prog 57 #[] w fun e w' => RetStore w w' e shelfL := by
 go_enter Tryz.func57, Tryz.ntmps57
 go_wp2_with fail
 refine (obj_any _ _ _ _ _ _).mono ?_; rintro e w1 ⟨rfl, hb1⟩
 go_wp2_with fail
 refine (obj_any _ _ _ _ _ _).mono ?_; rintro e w2 ⟨rfl, hb2⟩
 go_wp2_with fail
 refine (obj_any _ _ _ _ _ _).mono ?_; rintro e w3 ⟨rfl, hb3⟩
 go_wp2_with fail
 refine (obj_any _ _ _ _ _ _).mono ?_; rintro e w4 ⟨rfl, hb4⟩
 go_wp2_with fail
 refine (obj_any _ _ _ _ _ _).mono ?_; rintro e w5 ⟨rfl, hb5⟩
 have HE := Lib.hid (shelf_end (tt := 46) hb1 hb2 hb3 hb4 hb5)
 clear hb1 hb2 hb3 hb4 hb5
 go_wp2
 go_ret
 exact ⟨_, rfl, HE.out.1, HE.out.2.alloc HE.out.2.size _⟩
end Go.Proofs.YtjdgpgfiomnjkaaGreatDoor
namespace Go.Proofs.YtjdgpgfiomnjkaaGreatDoor
open Go.RowKit
set_option linter.unusedVariables false
set_option linter.unusedSimpArgs false
end Go.Proofs.YtjdgpgfiomnjkaaGreatDoor
namespace Go.Proofs.YtjdgpgfiomnjkaaGreatDoor
open Go.RowKit
set_option linter.unusedVariables false
set_option linter.unusedSimpArgs false
def cmpId (a b : Int) : Int := if a < b then -1 else if b < a then 1 else 0
set_option maxHeartbeats 400000 in
theorem at1_any (i0 i1 id : Int) (a : Option Addr) (n c : Nat) (s : ByteArray) (w : World) :
  Calls Tryz.prog 151 #[.agg #[.int .i64 i0, .int .i64 i1, .slice a n c, .string s], .int .i64 id] w fun e w' => e = .returned (.int .i64 (cmpId i0 id)) ∧ Below w.heap.size w w' := by
 have hb0 : Below w.heap.size w w := Below.refl _ _
 have hb1 := below_alloc w
 unfold cmpId
 by_cases h1 : i0 < id
 ·go_enter Tryz.func151, Tryz.ntmps151
  go_wp2
  go_ret
  exact ⟨by simp [h1], hb1 _ _ hb0⟩
 ·by_cases h2 : id < i0
  ·go_enter Tryz.func151, Tryz.ntmps151
   go_wp2
   go_ret
   exact ⟨by simp [h1, h2], hb1 _ _ hb0⟩
  ·go_enter Tryz.func151, Tryz.ntmps151
   go_wp2
   go_ret
   exact ⟨by simp [h1, h2], hb1 _ _ hb0⟩
theorem cmpId_lt {a b : Int} (h : a < b) : cmpId a b = -1 := by simp [cmpId, h]
theorem cmpId_ge {a b : Int} (h : ¬ a < b) : cmpId a b = if b < a then 1 else 0 := by simp [cmpId, h]
set_option maxRecDepth 100000 in
set_option maxHeartbeats 2000000 in
theorem search_any (l : List Obj) (v : Value) (S : Nat → Prop) (id : Int) (w : World) (h : StoreV S w v l) (hr : Rising l) :
  Calls Tryz.prog 150 #[v, .int .i64 id, .func (.func 151) #[] #[]] w fun e w' => e = .returned (.tuple #[.int .i64 (lo l id), .bool (isAt l id)]) ∧ Below w.heap.size w w' := by
 obtain ⟨a, n, cap, la, ln, lc, HN, rfl, h1, h2, h3, h4, h5⟩ := h.open
 clear h h5
 obtain ⟨R, hR, hR1, _⟩ := cls_plain w
 have hRb := hR.below
 have hRn := hR.next
 have Hlo := Lib.hid (fun i (hi : i ≤ n) h1 h2 => lo_eq (l := l) (id := id) (i := i) (by rw [← HN.out.1]; exact hi) h1 h2)
 have Hr := Lib.hid hr
 clear hr
 go_enter Tryz.func150, Tryz.ntmps150
 go_wp2_with fail
 go_loopg [9, 10] n (fun kx s9 s10 wr => ∃ i j : Nat, s9 = .int .i64 i ∧ s10 = .int .i64 j ∧ i ≤ j ∧ j ≤ n ∧ j - i ≤ kx ∧ In R wr ∧
  Hid ((∀ t, t < i → (obj l t).id < id) ∧ (∀ t, j ≤ t → t < n → id ≤ (obj l t).id)))
 case atStart => exact ⟨0, n, rfl, rfl, by omega, by omega, by omega, hR1, ⟨fun t ht => absurd ht (by omega), fun t h1 h2 => by omega⟩⟩
 case round =>
  clear hR1
  obtain ⟨i, j, rfl, rfl, hij, hjn, hg, hRw, I⟩ := hrel
  by_cases hlt : i < j
  ·obtain ⟨b, off, rfl, hb, k0, k1, k2, k3⟩ := h4 (by omega)
   clear h4
   have m1 : ((i + j) / 2 : Nat) < n := by omega
   have x0 := k0 ((i + j) / 2) wr m1 (hRb _ hRw)
   have x1 := k1 ((i + j) / 2) wr m1 (hRb _ hRw)
   have x2 := k2 ((i + j) / 2) wr m1 (hRb _ hRw)
   have x3 := k3 ((i + j) / 2) wr m1 (hRb _ hRw)
   clear k0 k1 k2 k3
   by_cases hc : (obj l ((i + j) / 2)).id < id
   ·have hcm := cmpId_lt hc
    go_wp2_with (go_at_call 151; refine (at1_any _ _ _ _ _ _ _ _).mono ?_; rintro e w' ⟨rfl, hb2⟩; have hR2 := hRn _ _ hRw hb2)
    go_roundg (j - ((i + j) / 2 + 1))
    case measure => omega
    case rel =>
     have I2 : Hid ((∀ t, t < (i + j) / 2 + 1 → (obj l t).id < id) ∧ (∀ t, j ≤ t → t < n → id ≤ (obj l t).id)) := ⟨fun t ht => by
      by_cases e : t = (i + j) / 2
      ·subst e; exact hc
      ·have := Hr.out t ((i + j) / 2) (by omega) (by have := HN.out.1; omega); omega, I.out.2⟩
     exact ⟨(i + j) / 2 + 1, j, by rw [show ((i : Int) + (j : Int)) / 2 + 1 = (((i + j) / 2 + 1 : Nat) : Int) by omega], rfl, by omega, hjn, Nat.le_refl _, hR2, I2⟩
   ·have hcm := cmpId_ge hc
    have hpos : ¬ ((if id < (obj l ((i + j) / 2)).id then (1 : Int) else 0) < 0) := by split <;> omega
    rw [← hcm] at hpos
    clear hcm
    go_wp2_with (go_at_call 151; refine (at1_any _ _ _ _ _ _ _ _).mono ?_; rintro e w' ⟨rfl, hb2⟩; have hR2 := hRn _ _ hRw hb2)
    go_roundg ((i + j) / 2 - i)
    case measure => omega
    case rel =>
     have I2 : Hid ((∀ t, t < i → (obj l t).id < id) ∧ (∀ t, (i + j) / 2 ≤ t → t < n → id ≤ (obj l t).id)) := ⟨I.out.1, fun t ht htn => by
      by_cases e : t = (i + j) / 2
      ·subst e; omega
      ·have := Hr.out ((i + j) / 2) t (by omega) (by have := HN.out.1; omega); omega⟩
     exact ⟨i, (i + j) / 2, rfl, by rw [show ((i : Int) + (j : Int)) / 2 = (((i + j) / 2 : Nat) : Int) by omega], by omega, by omega, Nat.le_refl _, hR2, I2⟩
  ·obtain rfl : j = i := by omega
   have HL := Lib.hid (Hlo.out j hjn I.out.1 (fun t h1 h2 => I.out.2 t h1 (by have := HN.out.1; omega)))
   by_cases hn : j < n
   ·obtain ⟨b, off, rfl, hb, k0, k1, k2, k3⟩ := h4 (by omega)
    clear h4
    have x0 := k0 j wr hn (hRb _ hRw)
    have x1 := k1 j wr hn (hRb _ hRw)
    have x2 := k2 j wr hn (hRb _ hRw)
    have x3 := k3 j wr hn (hRb _ hRw)
    clear k0 k1 k2 k3
    by_cases he : (obj l j).id = id
    ·have hcm : cmpId (obj l j).id id = 0 := by rw [he]; simp [cmpId]
     have He := Lib.hid he; clear he
     go_wp2_with (go_at_call 151; refine (at1_any _ _ _ _ _ _ _ _).mono ?_; rintro e w' ⟨rfl, hb2⟩; have hR2 := hRn _ _ hRw hb2)
     go_ret2
     exact ⟨by unfold isAt; rw [HL.out, He.out, ← HN.out.1]; simp [hn], hRb _ hR2⟩
    ·have hcm : ¬ cmpId (obj l j).id id = 0 := by unfold cmpId; split <;> (try split) <;> omega
     have hcm2 : (cmpId (obj l j).id id == 0) = false := by simpa using hcm
     have He := Lib.hid he; clear he
     go_wp2_with (go_at_call 151; refine (at1_any _ _ _ _ _ _ _ _).mono ?_; rintro e w' ⟨rfl, hb2⟩; have hR2 := hRn _ _ hRw hb2)
     go_ret2
     exact ⟨by unfold isAt; rw [HL.out, ← HN.out.1]; simp [He.out], hRb _ hR2⟩
   ·go_wp2
    go_ret2
    exact ⟨by unfold isAt; rw [HL.out, ← HN.out.1]; simp [hn], hRb _ hRw⟩
theorem ret_ib {a b : Int} {x y : Bool} (h : a = b) (hx : x = y) : Ending.returned (.tuple #[.int .i64 a, .bool x]) = .returned (.tuple #[.int .i64 b, .bool y]) := by rw [h, hx]
set_option maxHeartbeats 400000 in
theorem at_any (l : List Obj) (v : Value) (S : Nat → Prop) (id : Int) (w : World) (h : StoreV S w v l) (hr : Rising l) :
  Calls Tryz.prog 88 #[v, .int .i64 id] w fun e w' => e = .returned (.tuple #[.int .i64 (lo l id), .bool (isAt l id)]) ∧ Below w.heap.size w w' := by
 obtain ⟨a, cap, n, rfl⟩ : ∃ a cap n, v = .slice a n cap := let ⟨_, ⟨a, cap, hv, _⟩, _⟩ := h; ⟨a, cap, _, hv⟩
 have hl := lo_le l id
 generalize hk : lo l id = k at hl ⊢
 generalize hb : isAt l id = b
 have Hk := Lib.hid hk
 have Hb := Lib.hid hb
 clear hk hb
 go_enter Tryz.func88, Tryz.ntmps88
 go_wp2_with (go_at_call 150; refine (search_any l _ S id _ h hr).mono ?_; rintro e w' ⟨rfl, hb2⟩; rw [Hk.out, Hb.out])
 go_ret2
 exact ⟨rfl, hb2⟩
set_option maxHeartbeats 400000 in
theorem kind_any (l : List Obj) (v : Value) (S : Nat → Prop) (id : Int) (w : World) (h : StoreV S w v l) (hr : Rising l) :
  Calls Tryz.prog 92 #[v, .int .i64 id] w fun e w' => e = .returned (.int .i64 (kindOf l id)) ∧ Below w.heap.size w w' := by
 have h' := h
 obtain ⟨a, n, cap, la, ln, lc, HN, rfl, h1, h2, h3, h4, h5⟩ := h.open
 clear h h5
 have hl := lo_le l id
 have Hkd := Lib.hid (hr.kind id)
 cases hb : isAt l id
 ·go_enter Tryz.func92, Tryz.ntmps92
  go_wp2_with (go_at_call 88; refine (at_any l _ S id _ h' hr).mono ?_; rintro e w' ⟨rfl, hb2⟩; rw [hb])
  go_ret
  exact ⟨by rw [Hkd.out, hb]; rfl, hb2⟩
 ·have hb' : lo l id < n := by rw [HN.out.1]; simp [isAt] at hb; exact hb.1
  obtain ⟨b, off, rfl, hS, k0, k1, k2, k3⟩ := h4 (by omega)
  clear h4 k0 k2 k3
  have hk := fun x => k1 (lo l id) x hb'
  clear k1
  rw [hb] at Hkd
  go_enter Tryz.func92, Tryz.ntmps92
  go_wp2_with (go_at_call 88; refine (at_any l _ S id _ h' hr).mono ?_; rintro e w' ⟨rfl, hb2⟩; rw [hb]; have hk1 := hk _ hb2)
  go_ret
  exact ⟨by rw [Hkd.out]; rfl, hb2⟩
set_option maxHeartbeats 1000000 in
theorem linked_any (o : Obj) (i kind : Int) (a : Option Addr) (n c k : Nat) (w : World) (hi : i = (k : Int)) :
  Calls Tryz.prog 122 #[.agg #[.int .i64 o.id, .int .i64 o.kind, .slice a n c, .string o.text], .int .i64 i, .int .i64 kind] w fun e w' => e = .returned (.int .i64 (linkErr o k kind)) ∧ Below w.heap.size w w' := by
 subst hi
 have hb0 : Below w.heap.size w w := Below.refl _ _
 have hb1 := below_alloc w
 have He := Lib.hid (show linkErr o k kind = if kind = 0 then 5 else if (if o.kind = 3 then (kind = 2 ∧ k = 0) ∨ (kind = 3 ∧ 0 < k) else kind = 1 ∨ kind = 2) then 0 else 7 from rfl)
 have hk0 : ((k : Int) == 0) = decide (k = 0) := by rw [Bool.eq_iff_iff]; simp
 by_cases k0 : k = 0
 ·have hlt : decide (0 < k) = false := by simp [k0]
  have hlt' : ¬ 0 < k := by omega
  rw [decide_eq_true k0] at hk0
  have K0 := Lib.hid k0
  clear k0
  cases q3 : (o.kind == 3) <;> cases e0 : (kind == 0) <;> cases e1 : (kind == 1) <;> cases e2 : (kind == 2) <;> cases e3 : (kind == 3)
  all_goals
   go_enter Tryz.func122, Tryz.ntmps122
   go_wp2
   all_goals go_ret
   all_goals (refine ⟨?_, hb1 _ _ hb0⟩; rw [He.out]; simp at e0 e1 e2 e3 q3; simp [e0, e1, e2, e3, q3, K0.out])
   all_goals omega
 ·have hlt : decide (0 < k) = true := by simp; omega
  have hlt' : 0 < k := by omega
  rw [decide_eq_false k0] at hk0
  have K0 := Lib.hid k0
  clear k0
  cases q3 : (o.kind == 3) <;> cases e0 : (kind == 0) <;> cases e1 : (kind == 1) <;> cases e2 : (kind == 2) <;> cases e3 : (kind == 3)
  all_goals
   go_enter Tryz.func122, Tryz.ntmps122
   go_wp2
   all_goals go_ret
   all_goals (refine ⟨?_, hb1 _ _ hb0⟩; rw [He.out]; simp at e0 e1 e2 e3 q3; simp [e0, e1, e2, e3, q3, K0.out, hlt'])
   all_goals omega
end Go.Proofs.YtjdgpgfiomnjkaaGreatDoor
namespace Go.Proofs.YtjdgpgfiomnjkaaGreatDoor
open Go.RowKit
set_option linter.unusedVariables false
set_option linter.unusedSimpArgs false
theorem StoreV.take {S : Nat → Prop} {w : World} {a : Option Addr} {n cap : Nat} {l : List Obj} (h : StoreV S w (.slice a n cap) l) {i : Nat} (hi : i ≤ l.length) : StoreV S w (.slice a i cap) (l.take i) := by
 obtain ⟨lvs, ⟨a', cap', hv, h1, h2, h3, h4⟩, h5⟩ := h
 cases hv
 have hl : (l.take i).length = i := by simp; omega
 refine ⟨lvs, ⟨a, cap, by rw [hl], by omega, h2, by omega, fun hp => ?_⟩, fun j hj => ?_⟩
 ·rw [hl] at hp
  obtain ⟨b, off, ha, hS, hc⟩ := h4 (by omega)
  refine ⟨b, off, ha, hS, fun j hj m u hu => hc j (by omega) m u ?_⟩
  have hu' : (objCells (obj (l.take i) j) (lvs j))[m]? = some u := hu
  rw [obj_take (by omega)] at hu'; exact hu'
 ·rw [obj_take (by omega)]; exact h5 j (by omega)
theorem linkScan {l : List Obj} {k : Nat} (hc : checkObj (obj l k) = 0) (hr : 0 < k → (obj l (k - 1)).id < (obj l k).id) {m : Nat} (hm : m < (obj l k).links.length)
  (hs : scan (fun j => linkErr (obj l k) j (kindOf (l.take k) (nth (obj l k).links j))) m = 0) {e : Int} (he : linkErr (obj l k) m (kindOf (l.take k) (nth (obj l k).links m)) = e) (hne : e ≠ 0) : objErr l k = e := by
 rw [objErr_links hc hr, scan_hit hs (by rw [he]; exact hne) hm, he]
set_option maxRecDepth 100000 in
set_option maxHeartbeats 4000000 in
theorem storeCheck_any (l : List Obj) (v : Value) (S : Nat → Prop) (w : World) (h : StoreV S w v l) :
  Calls Tryz.prog 61 #[v] w fun e w' => e = .returned (.int .i64 (checkStore l)) ∧ Below w.heap.size w w' := by
 have h' := h
 obtain ⟨a, n, cap, la, ln, lc, HN, rfl, h1, h2, h3, h4, h5⟩ := h.open
 clear h
 obtain ⟨R, hR, hR1, _⟩ := cls_plain w
 have hRb := hR.below
 have hRn := hR.next
 have hRg := cls_grown hR
 by_cases h40 : 40 < n
 ·have He := Lib.hid (checkStore_many (l := l) (by rw [← HN.out.1]; exact h40))
  go_enter Tryz.func61, Tryz.ntmps61
  go_wp2_with fail
  go_ret
  exact ⟨ret_int He.out.symm, hRb _ hR1⟩
 ·have hl40 : l.length ≤ 40 := by rw [← HN.out.1]; omega
  have Hbad := Lib.hid (fun i e (h0 : scan (objErr l) i = 0) (hi : i < n) (he : objErr l i = e) (hne : e ≠ 0) => checkStore_bad hl40 h0 (by rw [← HN.out.1]; exact hi) he hne)
  have Hok := Lib.hid (fun (h0 : scan (objErr l) n = 0) => checkStore_ok hl40 (by rw [← HN.out.1]; exact h0))
  clear hl40
  go_enter Tryz.func61, Tryz.ntmps61
  go_wp2_with fail
  go_loopw [14] (fun i wr => ∃ k : Nat, k ≤ n ∧ i = .int .i64 k ∧ Hid (scan (objErr l) k = 0) ∧ In R wr) (fun i _ => n - (intOf i).toNat)
  case atStart => exact ⟨0, by omega, rfl, rfl, hR1⟩
  case round =>
   obtain ⟨k, hk, rfl, Hs, hRw⟩ := hrel
   clear hR1
   obtain ⟨wo, rfl⟩ : ∃ wo : World, wo = wr := ⟨_, rfl⟩
   by_cases hlt : k < n
   ·obtain ⟨b, off, rfl, hb, k0, k1, k2, k3⟩ := h4 (by omega)
    have x0 := k0 k wo hlt (hRb _ hRw)
    have x1 := k1 k wo hlt (hRb _ hRw)
    have x2 := k2 k wo hlt (hRb _ hRw)
    have x3 := k3 k wo hlt (hRb _ hRw)
    have ho := h5 k hlt
    have Hrt := Lib.hid (scan_rising (l := l) (n := k) (by rw [← HN.out.1]; omega) Hs.out)
    have Hk0 := Lib.hid k0
    have Hln := Lib.hid (HN.out.2 k)
    clear h4 h5 k0 k1 k2 k3
    generalize la k = a2 at *
    generalize ln k = n2 at *
    generalize lc k = c2 at *
    obtain ⟨Q, hQ, hQ1, y0, y1, y2, y3⟩ := cls_box4 wo (.int .i64 (obj l k).id) (.int .i64 (obj l k).kind) (.slice a2 n2 c2) (.string (obj l k).text) 46
    have hQb : ∀ x, In Q x → Below w.heap.size w x := fun x hx => below_next (hRb _ hRw) (hQ.below x hx)
    have hQn := hQ.next
    by_cases hz : checkObj (obj l k) = 0
    ·have hz' : (checkObj (obj l k) != 0) = false := by simpa using hz
     have Hz := Lib.hid hz; clear hz
     have HT := Lib.hid (fun x (hx : In Q x) => (h'.take (i := k) (by rw [← HN.out.1]; omega)).below (hQb x hx))
     obtain ⟨a3, n3, c3, HN3, hv3, g1, g2, g3, g4⟩ := ho.1.open
     cases hv3
     have HL := Lib.hid HN3.out; clear HN3 Hln
     go_wp2_with (go_at_call 67; refine (check_any (obj l k) _ S _ (ho.below (hQb _ hQ1))).mono ?_; rintro e w2 ⟨rfl, hb2⟩; have hQ2 := hQn _ _ hQ1 hb2; clear x0 x1 x2 x3)
     clear hb2 hz'
     by_cases hst : 0 < k ∧ (obj l k).id ≤ (obj l (k - 1)).id
     ·obtain ⟨hk0, hle⟩ := hst
      have hkm : ∀ x, In Q x → x.cell? ⟨b, off + (k - 1) * 4, none⟩ = some (.int .i64 (obj l (k - 1)).id) := fun x hx => Hk0.out (k - 1) x (by omega) (hQb x hx)
      have hi3 : (0 : Int) ≤ (k : Int) - 1 := by omega
      have hi4 : (1 : Int) ≤ (k : Int) := by omega
      have hi5 : (k : Int) - 1 < (n : Int) := by omega
      have hi6 : (0 : Int) < (k : Int) := by omega
      have hwr2 := wrap_in (n := (k : Int) - 1) (by omega)
      have htn : ((k : Int) - 1).toNat = k - 1 := by omega
      have hQd := hQ.drewN
      go_quiet (fail)
      go_wp2
      go_ret
      exact ⟨ret_int (Hbad.out k _ Hs.out hlt (objErr_state Hz.out hk0 hle) (by decide)).symm, hQb _ (hQd _ _ hQ2)⟩
     have Hst := Lib.hid (fun (h0 : 0 < k) => show (obj l (k - 1)).id < (obj l k).id from Int.not_le.1 (fun hle => hst ⟨h0, hle⟩))
     clear hst
     rcases Classical.em (0 < k) with hk0 | hk0
     case' inl =>
      have hkm : ∀ x, In Q x → x.cell? ⟨b, off + (k - 1) * 4, none⟩ = some (.int .i64 (obj l (k - 1)).id) := fun x hx => Hk0.out (k - 1) x (by omega) (hQb x hx)
      have hi3 : (0 : Int) ≤ (k : Int) - 1 := by omega
      have hi4 : (1 : Int) ≤ (k : Int) := by omega
      have hi5 : (k : Int) - 1 < (n : Int) := by omega
      have hi6 : (0 : Int) < (k : Int) := by omega
      have hwr2 := wrap_in (n := (k : Int) - 1) (by omega)
      have htn : ((k : Int) - 1).toNat = k - 1 := by omega
      have hlts := Hst.out hk0
      have hQd := hQ.drewN
      go_quiet (fail)
      clear hkm hi3 hi4 hi5 hi6 hwr2 htn
     case' inr =>
      have hd : decide ((0 : Int) < (k : Int)) = false := by simp; omega
      have hQd := hQ.drewN
      go_quiet (fail)
     all_goals
      have hQ3 := hQd _ nq hQ2
      clear hQ1 hQ2 hQd
      generalize w2.drewN nq = w3 at *
      go_wp2_with fail
      (try clear hd)
      (try clear hlts)
      have hQg := cls_grown hQ
      go_loopw [40] (fun i wr => ∃ m : Nat, m ≤ n2 ∧ i = .int .i64 m ∧ Hid (scan (fun j => linkErr (obj l k) j (kindOf (l.take k) (nth (obj l k).links j))) m = 0) ∧ In Q wr) (fun i _ => n2 - (intOf i).toNat)
      case atStart => exact ⟨0, by omega, rfl, rfl, hQ3⟩
      case round =>
       obtain ⟨m, hm, rfl, Hm, hQw⟩ := hrel
       clear hQ3
       by_cases hmlt : m < n2
       ·obtain ⟨b', off', rfl, hb', hcell⟩ := g4 (by omega)
        have hcm : ∀ x, In Q x → x.cell? ⟨b', off' + m, none⟩ = some (.int .i64 (nth (obj l k).links m)) := fun x hx => hcell m x hmlt (hQb x hx)
        clear hcell g4
        have hi1 : (0 : Int) ≤ (k : Int) := by omega
        have hi2 : (k : Int) ≤ (n : Int) := by omega
        have hi3 : (k : Int) ≤ (cap : Int) := by omega
        by_cases hle : linkErr (obj l k) m (kindOf (l.take k) (nth (obj l k).links m)) = 0
        ·have hq : (linkErr (obj l k) m (kindOf (l.take k) (nth (obj l k).links m)) != 0) = false := by simpa using hle
         have Hle := Lib.hid hle; clear hle
         go_wp2_with fail
         refine wp_region_quiet_below (by kernel_rfl) (by kernel_rfl) ?_
         repeat (quiet_step (first | exact Calls.regrown_of (kind_any (l.take k) _ S _ _ (HT.out _ (hQg _ _ _ hQw)) Hrt.out) | exact Calls.regrown_of (linked_any (obj l k) _ _ _ _ _ m _ rfl)))
         refine wpQuiet_nil ?_
         intro _ hw'
         obtain ⟨⟨dq, osq⟩, hw''⟩ := hw'
         subst hw''
         have hQ4 := hQg _ dq osq hQw
         generalize Go.Sort.grow (redrawn wr dq) osq = w4 at *
         go_wp2
         go_roundw
         case rel => exact ⟨m + 1, by omega, by go_num, scan_next Hm.out Hle.out, hQ4⟩
         case measure => simp [intOf]; omega
        ·have hq : (linkErr (obj l k) m (kindOf (l.take k) (nth (obj l k).links m)) != 0) = true := by simpa using hle
         have Hle := Lib.hid (linkScan Hz.out Hst.out (by rw [← HL.out]; exact hmlt) Hm.out rfl hle)
         have Hne := Lib.hid hle; clear hle
         go_wp2_with fail
         refine wp_region_quiet_below (by kernel_rfl) (by kernel_rfl) ?_
         repeat (quiet_step (first | exact Calls.regrown_of (kind_any (l.take k) _ S _ _ (HT.out _ (hQg _ _ _ hQw)) Hrt.out) | exact Calls.regrown_of (linked_any (obj l k) _ _ _ _ _ m _ rfl)))
         refine wpQuiet_nil ?_
         intro _ hw'
         obtain ⟨⟨dq, osq⟩, hw''⟩ := hw'
         subst hw''
         have hQ4 := hQg _ dq osq hQw
         generalize Go.Sort.grow (redrawn wr dq) osq = w4 at *
         go_wp2
         go_ret
         exact ⟨ret_int (Hbad.out k _ Hs.out hlt Hle.out Hne.out).symm, hQb _ hQ4⟩
       ·obtain rfl : m = n2 := by omega
        have Hm2 := Lib.hid (scan_next Hs.out ((objErr_links Hz.out Hst.out).trans (by rw [← HL.out]; exact Hm.out)))
        go_wp2
        go_roundw
        case rel => exact ⟨k + 1, by omega, by go_num, Hm2.out, hR.next _ _ hRw (hQ.below _ hQw)⟩
        case measure => simp [intOf]; omega
    ·have hz' : (checkObj (obj l k) != 0) = true := by simpa using hz
     have Hz := Lib.hid hz
     clear hz
     go_wp2_with (go_at_call 67; refine (check_any (obj l k) _ S _ (ho.below (hQb _ hQ1))).mono ?_; rintro e w2 ⟨rfl, hb2⟩; have hQ2 := hQn _ _ hQ1 hb2; clear x0 x1 x2 x3)
     go_ret
     exact ⟨ret_int (Hbad.out k _ Hs.out hlt (objErr_bad Hz.out) Hz.out).symm, hQb _ hQ2⟩
   ·obtain rfl : k = n := by omega
    have He := Lib.hid (Hok.out Hs.out)
    go_wp2_with fail
    go_ret
    exact ⟨ret_int He.out.symm, hRb _ hRw⟩
end Go.Proofs.YtjdgpgfiomnjkaaGreatDoor
namespace Go.Proofs.YtjdgpgfiomnjkaaGreatDoor
open Go.RowKit
set_option linter.unusedVariables false
set_option linter.unusedSimpArgs false
end Go.Proofs.YtjdgpgfiomnjkaaGreatDoor
