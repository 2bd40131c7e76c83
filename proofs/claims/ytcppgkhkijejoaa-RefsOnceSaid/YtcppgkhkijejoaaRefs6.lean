/- Walks: the law's own refs; its first test of refs. -/
import Derived.Test.YtcppgkhkijejoaaRefs5
import Derived.Test.YtcppgkhkijejoaaObj5
namespace Go.Proofs.Ytcppgkhkijejoaa
open Go.RowKit
set_option linter.unusedVariables false
set_option linter.unusedSimpArgs false

def namesL : List Rf := [⟨⟨#[109, 97, 105, 110]⟩, 3⟩, ⟨⟨#[120, 47, 121]⟩, 5⟩]
/-- refs come back, in new memory -/
def RetRefs (w w' : World) (e : Ending) (l : List Rf) : Prop := ∃ v, e = .returned v ∧ RefsV (fun b => w.heap.size ≤ b) w' v l ∧ Below w.heap.size w w'

/-- a new block of refs -/
theorem refs_new (w : World) (l : List Rf) (t : TypeId) (N : Nat) (hN : N = w.heap.size) (hl : l.length * 24 ≤ 140737488351232) (h : ∀ r ∈ l, I64 r.id ∧ r.name.size ≤ 140737488351232) :
    RefsV (fun b => b = N) (w.alloc (.cells (flat (fun i => [.string (rf l i).name, .int .i64 (rf l i).id]) l.length).toArray t)) (.slice (some ⟨N, 0, none⟩) l.length l.length) l :=
  ⟨sl_new w _ 2 24 _ t N hN (fun _ _ => rfl) hl (by omega), h⟩

set_option maxHeartbeats 400000 in
theorem names_any (w : World) : Calls Try.prog 60 #[] w fun e w' => RetRefs w w' e namesL := by
  go_enter Try.func60, Try.ntmps60
  go_wp2_with fail
  go_ret
  have h := refs_new w namesL 43 w.heap.size rfl (by decide) (by
    intro r hr
    simp only [namesL, List.mem_cons, List.not_mem_nil, or_false] at hr
    rcases hr with rfl | rfl <;> exact ⟨small64 _ (by decide), by decide⟩)
  exact ⟨_, rfl, h.weaken (fun b hb => by omega), (Below.refl _ _).alloc (Nat.le_refl _) _⟩

theorem begun_getxyN : getN namesL ⟨#[120, 47, 121]⟩ = 5 := by
  unfold getN findRf; simp only [ByteArray.toList_eq]; decide +kernel
theorem begun_getxyE : getE namesL ⟨#[120, 47, 121]⟩ = 0 := by
  unfold getE findRf; simp only [ByteArray.toList_eq]; decide +kernel
theorem begun_getxN : getN namesL ⟨#[120]⟩ = 0 := by
  unfold getN findRf; simp only [ByteArray.toList_eq]; decide +kernel
theorem begun_getxE : getE namesL ⟨#[120]⟩ = 5 := by
  unfold getE findRf; simp only [ByteArray.toList_eq]; decide +kernel
theorem begun_refs : checkRefs namesL shelfL = 0 := by
  unfold checkRefs rightErr refErr pairErr inPlace strLt; simp only [ByteArray.toList_eq]; decide +kernel
theorem begun_n1 : nameErr ⟨#[120]⟩ = 0 := by decide +kernel
theorem begun_n2 : nameErr ⟨#[120, 47]⟩ = 1 := by decide +kernel
theorem begun_n3 : nameErr ⟨#[97, 47, 47, 98]⟩ = 1 := by decide +kernel

set_option maxRecDepth 100000 in
set_option maxHeartbeats 4000000 in
theorem refsBegun_any (w : World) : Calls Try.prog 28 #[] w fun e w' => e = .returned (.bool true) ∧ Below w.heap.size w w' := by
  obtain ⟨R, hR, hR1, _⟩ := cls_plain w
  have hRb := hR.below
  have hRn := hR.next
  go_enter Try.func28, Try.ntmps28
  go_wp2_with fail
  refine (names_any _).mono ?_
  rintro e w1 ⟨v1, rfl, hv1, hb1⟩
  have hR2 := hRn _ _ hR1 hb1
  obtain ⟨⟨p1, c1⟩, rfl⟩ := hv1.shape
  go_wp2_with fail
  have hG := get_any namesL _ _ ⟨#[120, 47, 121]⟩ _ hv1 (by decide)
  rw [begun_getxyN, begun_getxyE] at hG
  refine hG.mono ?_
  rintro e w2 ⟨rfl, hb2⟩
  have hR3 := hRn _ _ hR2 hb2
  clear hG hv1 hb1 hb2 hR1 hR2
  go_wp2_with fail
  refine (names_any _).mono ?_
  rintro e w3 ⟨v3, rfl, hv3, hb3⟩
  have hR4 := hRn _ _ hR3 hb3
  obtain ⟨⟨p3, c3⟩, rfl⟩ := hv3.shape
  go_wp2_with fail
  have hG := get_any namesL _ _ ⟨#[120]⟩ _ hv3 (by decide)
  rw [begun_getxN, begun_getxE] at hG
  refine hG.mono ?_
  rintro e w4 ⟨rfl, hb4⟩
  have hR5 := hRn _ _ hR4 hb4
  clear hG hv3 hb3 hb4 hR3 hR4
  go_wp2_with fail
  refine (names_any _).mono ?_
  rintro e w5 ⟨v5, rfl, hv5, hb5⟩
  have hR6 := hRn _ _ hR5 hb5
  obtain ⟨⟨p5, c5⟩, rfl⟩ := hv5.shape
  go_wp2_with fail
  refine (shelf_any _).mono ?_
  rintro e w6 ⟨v6, rfl, hv6, hb6⟩
  have hR7 := hRn _ _ hR6 hb6
  obtain ⟨a6, n6, c6, rfl⟩ : ∃ a cap n, v6 = .slice a n cap := let ⟨_, ⟨a, cap, hv, _⟩, _⟩ := hv6; ⟨a, cap, _, hv⟩
  go_wp2_with fail
  have hC := refsCheck_any namesL shelfL _ _ _ _ _ (hv5.below hb6) hv6
  rw [begun_refs] at hC
  refine hC.mono ?_
  rintro e w7 ⟨rfl, hb7⟩
  have hR8 := hRn _ _ hR7 hb7
  clear hC hv5 hv6 hb5 hb6 hb7 hR5 hR6 hR7
  have hN1 := fun x => name_any ⟨#[120]⟩ x (by decide)
  have hN2 := fun x => name_any ⟨#[120, 47]⟩ x (by decide)
  have hN3 := fun x => name_any ⟨#[97, 47, 47, 98]⟩ x (by decide)
  rw [begun_n1] at hN1
  rw [begun_n2] at hN2
  rw [begun_n3] at hN3
  have H1 := Lib.hid hN1
  have H2 := Lib.hid hN2
  have H3 := Lib.hid hN3
  clear hN1 hN2 hN3
  go_wp2_with fail
  refine (H1.out _).mono ?_
  rintro e w8 ⟨rfl, rfl⟩
  go_wp2_with fail
  refine (H2.out _).mono ?_
  rintro e w8 ⟨rfl, rfl⟩
  go_wp2_with fail
  refine (H3.out _).mono ?_
  rintro e w8 ⟨rfl, rfl⟩
  go_wp2_with fail
  go_ret
  exact ⟨rfl, hRb _ hR8⟩
end Go.Proofs.Ytcppgkhkijejoaa
