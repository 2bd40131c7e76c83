/- Walks: the law's first test of walks. -/
import Derived.Test.YtcppgkhkijejoaaWalk8
namespace Go.Proofs.Ytcppgkhkijejoaa
open Go.RowKit
set_option linter.unusedVariables false
set_option linter.unusedSimpArgs false

theorem begun_w1 : thereErr shelfL [3] = 0 := by decide +kernel
theorem begun_w2 : (partRes shelfL [3]).map (·.id) = [1, 2, 3] := by decide +kernel
theorem begun_w3 : partRes shelfL [3] = shelfL.take 3 := by kernel_rfl
theorem begun_w4 : behindErr shelfL 3 5 = 0 := by decide +kernel
theorem begun_w5 : behindRes shelfL 3 5 = true := by decide +kernel
theorem begun_w6 : behindErr shelfL 5 3 = 0 := by decide +kernel
theorem begun_w7 : behindRes shelfL 5 3 = false := by decide +kernel
theorem begun_w8 : behindErr shelfL 2 5 = 7 := by decide +kernel
theorem begun_w9 : sameInts [1, 2, 3] [1, 2, 3] = true := by decide +kernel

theorem ints_lit {w : World} {xs : List Int} {t : TypeId} (h : ∀ x ∈ xs, 0 ≤ x ∧ x ≤ 1000) (hl : xs.length ≤ 1000) :
    IntsV (fun b => b = w.heap.size) (w.alloc (.cells (xs.map (Value.int .i64)).toArray t)) (.slice (some ⟨w.heap.size, 0, none⟩) xs.length xs.length) xs :=
  ints_new w xs t _ rfl (by omega) (fun x hx => small64 x (h x hx))

set_option maxRecDepth 100000 in
set_option maxHeartbeats 4000000 in
theorem walkBegun_any (w : World) : Calls Try.prog 33 #[] w fun e w' => e = .returned (.bool true) ∧ Below w.heap.size w w' := by
  obtain ⟨R, hR, hR1, _⟩ := cls_plain w
  have hRb := hR.below
  have hRn := hR.next
  have hRa := hR.alloc
  go_enter Try.func33, Try.ntmps33
  go_wp2_with fail
  refine (shelf_any _).mono ?_
  rintro e w1 ⟨v1, rfl, hv1, hb1⟩
  have hR2 := hRn _ _ hR1 hb1
  obtain ⟨a1, c1, rfl⟩ := hv1.vshape
  go_wp2_with fail
  have hG := reach_any shelfL [3] _ _ _ _ _ (hv1.below ((Below.refl _ _).alloc (Nat.le_refl _) _)) (ints_lit (w := w1) (xs := [3]) (t := 3) (by decide) (by decide))
  rw [begun_w1, begun_w2] at hG
  refine hG.mono ?_
  rintro e w2 ⟨v2, rfl, hv2, hb2⟩
  have hR3 := hRn _ _ (hRa _ _ hR2) hb2
  obtain ⟨⟨p2, c2⟩, rfl⟩ := hv2.shape
  have Hv2 := Lib.hid (show IntsV (fun _ => True) w2 (.slice p2 3 c2) [1, 2, 3] from hv2)
  clear hG hv1 hb1 hb2 hR1 hR2 hv2
  go_wp2_with fail
  refine (shelf_any _).mono ?_
  rintro e w3 ⟨v3, rfl, hv3, hb3⟩
  have hR4 := hRn _ _ hR3 hb3
  obtain ⟨a3, c3, rfl⟩ := hv3.vshape
  have Hv3 := Lib.hid (Hv2.out.below hb3)
  go_wp2_with fail
  have hG := part_any shelfL [3] _ _ _ _ _ (hv3.below ((Below.refl _ _).alloc (Nat.le_refl _) _)) (ints_lit (w := w3) (xs := [3]) (t := 3) (by decide) (by decide))
  rw [begun_w1, begun_w3] at hG
  refine hG.mono ?_
  rintro e w4 ⟨v4, rfl, hv4, hb4⟩
  have hb4' := below_next ((Below.refl w3.heap.size w3).alloc (Nat.le_refl _) (.cells #[.int .i64 3] 3)) hb4
  have hR5 := hRn _ _ hR4 hb4'
  have Hv4 := Lib.hid (Hv3.out.below hb4')
  obtain ⟨a4, c4, rfl⟩ := hv4.vshape
  have Hp4 := Lib.hid hv4
  clear hG hv3 hb3 hb4 hb4' hR3 hR4 hv4 Hv3 Hv2
  go_wp2_with fail
  refine (shelf_any _).mono ?_
  rintro e w5 ⟨v5, rfl, hv5, hb5⟩
  have hR6 := hRn _ _ hR5 hb5
  obtain ⟨a5, c5, rfl⟩ := hv5.vshape
  go_wp2_with fail
  have hG := behind_any shelfL 3 5 _ _ _ hv5 (small64 _ (by decide)) (small64 _ (by decide))
  rw [begun_w4, begun_w5] at hG
  refine hG.mono ?_
  rintro e w6 ⟨rfl, hb6⟩
  have hR7 := hRn _ _ hR6 hb6
  have Hv6 := Lib.hid ((Hv4.out.below hb5).below hb6)
  have Hp6 := Lib.hid ((Hp4.out.below hb5).below hb6)
  clear hG hv5 hb5 hb6 hR5 hR6 Hv4 Hp4
  go_wp2_with fail
  refine (shelf_any _).mono ?_
  rintro e w5 ⟨v5, rfl, hv5, hb5⟩
  have hR6 := hRn _ _ hR7 hb5
  obtain ⟨a6, c6, rfl⟩ := hv5.vshape
  go_wp2_with fail
  have hG := behind_any shelfL 5 3 _ _ _ hv5 (small64 _ (by decide)) (small64 _ (by decide))
  rw [begun_w6, begun_w7] at hG
  refine hG.mono ?_
  rintro e w8 ⟨rfl, hb6⟩
  have hR8 := hRn _ _ hR6 hb6
  have Hv8 := Lib.hid ((Hv6.out.below hb5).below hb6)
  have Hp8 := Lib.hid ((Hp6.out.below hb5).below hb6)
  clear hG hv5 hb5 hb6 hR6 hR7 Hv6 Hp6
  go_wp2_with fail
  refine (shelf_any _).mono ?_
  rintro e w5 ⟨v5, rfl, hv5, hb5⟩
  have hR6 := hRn _ _ hR8 hb5
  obtain ⟨a7, c7, rfl⟩ := hv5.vshape
  go_wp2_with fail
  have hG := behind_any shelfL 2 5 _ _ _ hv5 (small64 _ (by decide)) (small64 _ (by decide))
  rw [begun_w8] at hG
  refine hG.mono ?_
  rintro e w9 ⟨rfl, hb6⟩
  have hR9 := hRn _ _ hR6 hb6
  have Hv9 := Lib.hid ((Hv8.out.below hb5).below hb6)
  have Hp9 := Lib.hid ((Hp8.out.below hb5).below hb6)
  clear hG hv5 hb5 hb6 hR6 hR8 Hv8 Hp8
  go_wp2_with fail
  have hG := sameInts_any [1, 2, 3] [1, 2, 3] _ _ _ _ _ (Hv9.out.below ((Below.refl _ _).alloc (Nat.le_refl _) _)) (ints_lit (w := w9) (xs := [1, 2, 3]) (t := 3) (by decide) (by decide))
  rw [begun_w9] at hG
  refine hG.mono ?_
  rintro e w10 ⟨rfl, hb10⟩
  have hb10' := below_next ((Below.refl w9.heap.size w9).alloc (Nat.le_refl _) (.cells #[.int .i64 1, .int .i64 2, .int .i64 3] 3)) hb10
  have hR10 := hRn _ _ hR9 hb10'
  have Hp10 := Lib.hid (Hp9.out.below hb10')
  clear hG hb10 hb10' Hp9 Hv9 hR9
  go_wp2_with fail
  refine (shelf_any _).mono ?_
  rintro e w11 ⟨v11, rfl, hv11, hb11⟩
  have hR11 := hRn _ _ hR10 hb11
  obtain ⟨a11, c11, hcap1, rfl⟩ : ∃ a c, 5 ≤ c ∧ v11 = .slice a shelfL.length c := let ⟨_, ⟨a, cap, hv, h1, _⟩, _⟩ := hv11; ⟨a, cap, h1, hv⟩
  have HT := Lib.hid (hv11.take (i := 3) (by decide))
  have Hp11 := Lib.hid (Hp10.out.below hb11)
  clear hv11 hb11 Hp10
  have hc3 : (3 : Int) ≤ (c11 : Int) := by omega
  go_wp2_with fail
  have hG := sameStore_any (shelfL.take 3) (shelfL.take 3) _ _ _ _ _ Hp11.out HT.out
  rw [sameStore_refl] at hG
  refine hG.mono ?_
  rintro e w12 ⟨rfl, hb12⟩
  have hR12 := hRn _ _ hR11 hb12
  clear hG hb12
  go_wp2_with fail
  go_ret
  exact ⟨rfl, hRb _ hR12⟩
end Go.Proofs.Ytcppgkhkijejoaa
