
/- DiffF: the law's first test of diff. -/
import Derived.Test.YtkaoldnhooojiaaGreatDoorDiffA3
import Derived.Test.YtkaoldnhooojiaaGreatDoorDiffC
import Derived.Test.YtkaoldnhooojiaaGreatDoorDiffD
namespace Go.Proofs.YtkaoldnhooojiaaGreatDoor
open Go.RowKit
set_option linter.unusedVariables false
set_option linter.unusedSimpArgs false

theorem mvs_fresh (w : World) (l : List Mv) (t : TypeId) (N : Nat) (hN : N = w.heap.size) (hl : l.length * 32 ≤ 140737488351232) (h : ∀ u ∈ l, I64 u.old ∧ I64 u.new ∧ u.name.size ≤ 140737488351232) :
    MvsV (fun b => b = N) (w.alloc (.cells (flat (fun i => mvCells (mv l i)) l.length).toArray t)) (.slice (some ⟨N, 0, none⟩) l.length l.length) l :=
  ⟨sl_new w _ 3 32 _ t N hN (fun _ _ => rfl) hl (by omega), h⟩
theorem store_from {S : Nat → Prop} {w : World} {b off n cap : Nat} {l : List Obj} (h : StoreV S w (.slice (some ⟨b, off, none⟩) n cap) l) {i : Nat} (hi : i ≤ l.length) : StoreV S w (.slice (some ⟨b, off + i * 4, none⟩) (n - i) (cap - i)) (l.drop i) := by
  obtain ⟨lvs, ⟨a', cap', hv, h1, h2, h3, h4⟩, h5⟩ := h
  cases hv
  refine ⟨fun j => lvs (i + j), ⟨_, _, by rw [List.length_drop], by rw [List.length_drop]; omega, by omega, by rw [List.length_drop]; omega, fun hn => ?_⟩, fun j hj => ?_⟩
  · rw [List.length_drop] at hn
    obtain ⟨b', off', ha, hS, hc⟩ := h4 (by omega)
    cases ha
    refine ⟨b, off + i * 4, rfl, hS, fun j hj k u hu => ?_⟩
    rw [List.length_drop] at hj
    have e : obj (l.drop i) j = obj l (i + j) := by unfold obj at_; simp only [List.getD_eq_getElem?_getD, List.getElem?_drop]
    have := hc (i + j) (by omega) k u (by show (objCells (obj l (i + j)) (lvs (i + j)))[k]? = some u; rw [← e]; exact hu)
    rw [show off + i * 4 + j * 4 + k = off + (i + j) * 4 + k by omega]; exact this
  · rw [List.length_drop] at hj
    have e : obj (l.drop i) j = obj l (i + j) := by unfold obj at_; simp only [List.getD_eq_getElem?_getD, List.getElem?_drop]
    rw [e]; exact h5 (i + j) (by omega)

def refs2 : List Rf := [⟨⟨#[97]⟩, 9⟩, ⟨⟨#[109, 97, 105, 110]⟩, 5⟩]
def lead3 : List Mv := [⟨⟨#[97]⟩, 9, 0⟩, ⟨⟨#[109, 97, 105, 110]⟩, 5, 3⟩, ⟨⟨#[120, 47, 121]⟩, 0, 5⟩]
theorem begun_d1 : diffL shelfL (shelfL.take 3) = shelfL.drop 3 := by kernel_rfl
theorem begun_d2 : diffE shelfL (shelfL.take 3) = 0 := by decide +kernel
theorem begun_d4 : listsE namesL refs2 = 0 := by
  unfold listsE namesE risesB stepB strLt; simp only [ByteArray.toList_eq]; decide +kernel
theorem begun_d3 : refsL namesL refs2 = lead3 := by
  unfold refsL; rw [if_pos begun_d4]
  have h1 : strLt (⟨#[109, 97, 105, 110]⟩ : ByteArray) ⟨#[97]⟩ = false := by unfold strLt; simp only [ByteArray.toList_eq]; decide +kernel
  have h2 : strLt (⟨#[97]⟩ : ByteArray) ⟨#[109, 97, 105, 110]⟩ = true := by unfold strLt; simp only [ByteArray.toList_eq]; decide +kernel
  have h3 : strLt (⟨#[109, 97, 105, 110]⟩ : ByteArray) ⟨#[109, 97, 105, 110]⟩ = false := strLt_irrefl _
  simp [leadL, namesL, refs2, leadN, h1, h2, h3, lead3]

set_option maxRecDepth 100000 in
set_option maxHeartbeats 4000000 in
theorem diffBegun_any (w : World) : Calls Tryz.prog 23 #[] w fun e w' => e = .returned (.bool true) ∧ Below w.heap.size w w' := by
  obtain ⟨R, hR, hR1, _⟩ := cls_plain w
  have hRb := hR.below
  have hRn := hR.next
  have hRa := hR.alloc
  go_enter Tryz.func23, Tryz.ntmps23
  go_wp2_with fail
  refine (shelf_any _).mono ?_
  rintro e w1 ⟨v1, rfl, hv1, hb1⟩
  have hR2 := hRn _ _ hR1 hb1
  obtain ⟨a1, c1, rfl⟩ := hv1.vshape
  go_wp2_with fail
  refine (shelf_any _).mono ?_
  rintro e w2 ⟨v2, rfl, hv2, hb2⟩
  have hR3 := hRn _ _ hR2 hb2
  obtain ⟨a2, c2, hcap2, rfl⟩ : ∃ a c, 5 ≤ c ∧ v2 = .slice a shelfL.length c := let ⟨_, ⟨a, cap, hv, h1, _⟩, _⟩ := hv2; ⟨a, cap, h1, hv⟩
  have Hv1 := Lib.hid (hv1.below hb2)
  have HT := Lib.hid (hv2.take (i := 3) (by decide))
  have hc3 : (3 : Int) ≤ (c2 : Int) := by omega
  clear hv1 hv2 hb1 hb2 hR1 hR2
  go_wp2_with fail
  have hG := objects_any shelfL (shelfL.take 3) _ _ _ _ _ Hv1.out HT.out
  rw [begun_d1, begun_d2] at hG
  refine hG.mono ?_
  rintro e w3 ⟨v3, rfl, hv3, hb3⟩
  have hR4 := hRn _ _ hR3 hb3
  obtain ⟨a3, c3, rfl⟩ := hv3.vshape
  have Hv3 := Lib.hid hv3
  clear hG hv3 hb3 Hv1 HT hR3
  go_wp2_with fail
  refine (names_any _).mono ?_
  rintro e w4 ⟨v4, rfl, hv4, hb4⟩
  have hR5 := hRn _ _ hR4 hb4
  obtain ⟨⟨p4, c4⟩, rfl⟩ := hv4.shape
  have Hv4 := Lib.hid (Hv3.out.below hb4)
  have hr2 := refs_new w4 refs2 40 w4.heap.size rfl (by decide) (by
    intro r hr
    simp only [refs2, List.mem_cons, List.not_mem_nil, or_false] at hr
    rcases hr with rfl | rfl <;> exact ⟨small64 _ (by decide), by decide⟩)
  have Hr2 := Lib.hid (show RefsV (fun b => b = w4.heap.size) (w4.alloc (.cells #[.string ⟨#[97]⟩, .int .i64 9, .string ⟨#[109, 97, 105, 110]⟩, .int .i64 5] 40)) (.slice (some ⟨w4.heap.size, 0, none⟩) 2 2) refs2 from hr2)
  clear hr2 Hv3 hb4 hR4
  go_wp2_with fail
  have hG := drefs_any namesL refs2 _ _ _ _ _ (hv4.below ((Below.refl _ _).alloc (Nat.le_refl _) _)) Hr2.out
  rw [begun_d3, begun_d4] at hG
  refine hG.mono ?_
  rintro e w5 ⟨v5, rfl, hv5, hb5⟩
  have hb5' := below_next ((Below.refl w4.heap.size w4).alloc (Nat.le_refl _) (.cells #[.string ⟨#[97]⟩, .int .i64 9, .string ⟨#[109, 97, 105, 110]⟩, .int .i64 5] 40)) hb5
  have hR6 := hRn _ _ hR5 hb5'
  obtain ⟨⟨p5, c5⟩, rfl⟩ := hv5.shape
  have Hv5 := Lib.hid hv5
  have Hs5 := Lib.hid (Hv4.out.below hb5')
  clear hG hv5 hb5 hb5' Hv4 Hr2 hR5 hv4
  go_wp2_with fail
  refine (shelf_any _).mono ?_
  rintro e w6 ⟨v6, rfl, hv6, hb6⟩
  have hR7 := hRn _ _ hR6 hb6
  obtain ⟨b6, off6, c6, hcap6, rfl⟩ : ∃ b off c, 5 ≤ c ∧ v6 = .slice (some ⟨b, off, none⟩) shelfL.length c := let ⟨_, ⟨a, cap, hv, h1, _, _, h4⟩, _⟩ := hv6; let ⟨b, off, e, _⟩ := h4 (by decide); ⟨b, off, cap, h1, by rw [hv, e]⟩
  have HD := Lib.hid (store_from hv6 (i := 3) (by decide))
  have Hs6 := Lib.hid (Hs5.out.below hb6)
  have Hv6 := Lib.hid (Hv5.out.below hb6)
  have hc5 : ¬ c6 = 3 := by omega
  have hc6 : (3 : Int) ≤ (c6 : Int) := by omega
  clear hv6 hb6 Hs5 Hv5 hR6
  go_wp2_with fail
  have hG := sameStore_any (shelfL.drop 3) (shelfL.drop 3) _ _ _ _ _ Hs6.out HD.out
  rw [sameStore_refl] at hG
  refine hG.mono ?_
  rintro e w7 ⟨rfl, hb7⟩
  have hR8 := hRn _ _ hR7 hb7
  have Hv7 := Lib.hid (Hv6.out.below hb7)
  have hl3 := mvs_fresh w7 lead3 36 w7.heap.size rfl (by decide) (by
    intro r hr
    simp only [lead3, List.mem_cons, List.not_mem_nil, or_false] at hr
    rcases hr with rfl | rfl | rfl <;> exact ⟨small64 _ (by decide), small64 _ (by decide), by decide⟩)
  have Hl3 := Lib.hid (show MvsV (fun b => b = w7.heap.size) (w7.alloc (.cells #[.string ⟨#[97]⟩, .int .i64 9, .int .i64 0, .string ⟨#[109, 97, 105, 110]⟩, .int .i64 5, .int .i64 3, .string ⟨#[120, 47, 121]⟩, .int .i64 0, .int .i64 5] 36)) (.slice (some ⟨w7.heap.size, 0, none⟩) 3 3) lead3 from hl3)
  clear hG hb7 hR7 hl3 Hv6 Hs6 HD
  go_wp2_with fail
  have hG := sameUpdates_any lead3 lead3 _ _ _ _ _ (Hv7.out.below ((Below.refl _ _).alloc (Nat.le_refl _) _)) Hl3.out
  rw [(sameMvs_iff lead3 lead3).2 rfl] at hG
  refine hG.mono ?_
  rintro e w8 ⟨rfl, hb8⟩
  have hb8' := below_next ((Below.refl w7.heap.size w7).alloc (Nat.le_refl _) (.cells #[.string ⟨#[97]⟩, .int .i64 9, .int .i64 0, .string ⟨#[109, 97, 105, 110]⟩, .int .i64 5, .int .i64 3, .string ⟨#[120, 47, 121]⟩, .int .i64 0, .int .i64 5] 36)) hb8
  have hR9 := hRn _ _ hR8 hb8'
  clear hG hb8 hb8'
  go_wp2_with fail
  go_ret
  exact ⟨rfl, hRb _ hR9⟩
end Go.Proofs.YtkaoldnhooojiaaGreatDoor
