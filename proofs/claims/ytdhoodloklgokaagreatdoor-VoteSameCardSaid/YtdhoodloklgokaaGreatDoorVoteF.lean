
/- Walks: voteBegun. -/
import Derived.Test.YtdhoodloklgokaaGreatDoorVoteD
import Derived.Test.YtdhoodloklgokaaGreatDoorPushB
namespace Go.Proofs.YtdhoodloklgokaaGreatDoor
open Go.RowKit
set_option linter.unusedVariables false
set_option linter.unusedSimpArgs false

theorem strs_new (w : World) (l : List ByteArray) (t : TypeId) (N : Nat) (hN : N = w.heap.size) (hl : l.length ≤ 1000) (h : ∀ s ∈ l, s.size ≤ 140737488351232) :
    StrsV (fun b => b = N) (w.alloc (.cells (l.map Value.string).toArray t)) (.slice (some ⟨N, 0, none⟩) l.length l.length) l := by
  refine StrsV.mk (Nat.le_refl _) (by omega) (by omega) rfl (fun i hi => ?_) h
  rw [Nat.zero_add]
  refine block_cell (cs := (l.map Value.string).toArray) (t := t) (fz := (0, 0)) (by subst hN; exact heap_alloc_new w _) ?_
  rw [sa_lt hi]; simp [hi]
def y7 : ByteArray := ⟨#[121, 101, 115, 32, 55, 32, 109, 97, 105, 110, 32, 51, 32, 54, 59]⟩
def n5 : ByteArray := ⟨#[110, 111, 32, 53]⟩
theorem vb1 : ofE hostR comeP = 0 := by decide +kernel
theorem vb2 : ofS hostR comeP = y7 := by decide +kernel
theorem vb3 : ofE rep0 comeP = 0 := by decide +kernel
theorem vb4 : ofS rep0 comeP = n5 := by decide +kernel
theorem vb5 : tallyS [y7, ⟨#[]⟩, y7] = (y7, true) := by decide +kernel
theorem vb6 : tallyS [y7, n5, ⟨#[]⟩] = (⟨#[]⟩, false) := by decide +kernel

set_option maxRecDepth 100000 in
set_option maxHeartbeats 4000000 in
theorem voteBegun_any (w : World) (ht : Tab w) : Calls Tryz.prog 24 #[] w fun e w' => e = .returned (.bool true) ∧ Below w.heap.size w w' := by
  have HT0 := Lib.hid ht
  clear ht
  go_enter Tryz.func24, Tryz.ntmps24
  go_wp2_with fail
  refine (host_any _).mono ?_
  rintro e w1 ⟨sv, rv, ov, uv, rfl, hr, hb1⟩
  have Hr := Lib.hid hr
  have HB1 := Lib.hid hb1
  clear hr hb1
  go_wp2_with fail
  refine (come_any _).mono ?_
  rintro e w2 ⟨ov2, uv2, rfl, ho2, hu2, hb2⟩
  have HB2 := Lib.hid (HB1.out.trans (hb2.mono HB1.out.size))
  have hO := of_any hostR comeP _ _ _ _ _ _ _ _ _ _ w2 (Hr.out.store.below hb2) (Hr.out.refs.below hb2) ho2 hu2 ⟨StoreV.shape3 Hr.out.objs, MvsV.shape3 Hr.out.upds⟩ (HT0.out.below HB2.out)
  rw [vb1, vb2] at hO
  have HO := Lib.hid hO
  clear hO ho2 hu2 hb2 Hr HB1
  go_wp2_with fail
  refine HO.out.mono ?_
  rintro e w3 ⟨rfl, hb3⟩
  have HB3 := Lib.hid (HB2.out.trans (hb3.mono HB2.out.size))
  clear HO HB2 hb3
  go_wp2_with fail
  refine (come_any _).mono ?_
  rintro e w4 ⟨ov4, uv4, rfl, ho4, hu4, hb4⟩
  have HB4 := Lib.hid (HB3.out.trans (hb4.mono HB3.out.size))
  have hO := of_any rep0 comeP (.slice none 0 0) (.slice none 0 0) _ _ (.slice none 0 0) (.slice none 0 0) (fun _ => True) (fun _ => True) _ _ w4 (StoreV.nil _ _ _ _ (by omega)) (RefsV.nil _ _ _ _ (by omega)) ho4 hu4 ⟨⟨_, _, _, rfl⟩, ⟨_, _, _, rfl⟩⟩ (HT0.out.below HB4.out)
  rw [vb3, vb4] at hO
  have HO := Lib.hid hO
  clear hO ho4 hu4 hb4 HB3
  go_wp2_with fail
  refine HO.out.mono ?_
  rintro e w5 ⟨rfl, hb5⟩
  have HB5 := Lib.hid (HB4.out.trans (hb5.mono HB4.out.size))
  clear HO HB4 hb5
  have hS := strs_new w5 [y7, ⟨#[]⟩, y7] 9 _ rfl (by decide) (by intro s hs; simp only [List.mem_cons, List.not_mem_nil, or_false] at hs; rcases hs with rfl | rfl | rfl <;> decide)
  have hT := tally_any _ _ _ _ hS
  rw [vb5] at hT
  have HT5 := Lib.hid hT
  clear hS hT
  go_wp2_with fail
  refine HT5.out.mono ?_
  rintro e w6 ⟨rfl, hb6⟩
  have HB6 := Lib.hid ((HB5.out.alloc HB5.out.size (.cells #[.string y7, .string ⟨#[]⟩, .string y7] 9)).trans (hb6.mono (by have := HB5.out.size; simp; omega)))
  clear HT5 hb6 HB5
  have hS := strs_new w6 [y7, n5, ⟨#[]⟩] 9 _ rfl (by decide) (by intro s hs; simp only [List.mem_cons, List.not_mem_nil, or_false] at hs; rcases hs with rfl | rfl | rfl <;> decide)
  have hT := tally_any _ _ _ _ hS
  rw [vb6] at hT
  have HT6 := Lib.hid hT
  clear hS hT
  go_wp2_with fail
  refine HT6.out.mono ?_
  rintro e w7 ⟨rfl, hb7⟩
  have HB7 := Lib.hid ((HB6.out.alloc HB6.out.size (.cells #[.string y7, .string n5, .string ⟨#[]⟩] 9)).trans (hb7.mono (by have := HB6.out.size; simp; omega)))
  clear HT6 hb7 HB6
  have q1 : (y7.toList == [121, 101, 115, 32, 55, 32, 109, 97, 105, 110, 32, 51, 32, 54, 59]) = true := by decide +kernel
  have q2 : (n5.toList == [110, 111, 32, 53]) = true := by decide +kernel
  have q3 : (y7.toList == y7.toList) = true := by simp
  go_wp2_with fail
  go_ret
  exact ⟨rfl, HB7.out⟩
end Go.Proofs.YtdhoodloklgokaaGreatDoor
