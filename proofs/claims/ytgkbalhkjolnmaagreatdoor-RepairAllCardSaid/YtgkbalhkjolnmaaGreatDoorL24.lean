
/- RepD: walks of repair.mender.mend, repair.All. -/
import Derived.Test.YtgkbalhkjolnmaaGreatDoorL16
import Derived.Test.YtgkbalhkjolnmaaGreatDoorL23
import Derived.Test.YtgkbalhkjolnmaaGreatDoorL9
import Derived.Test.YtgkbalhkjolnmaaGreatDoorL4
namespace Go.Proofs.YtgkbalhkjolnmaaGreatDoor
open Go.RowKit
set_option linter.unusedVariables false
set_option linter.unusedSimpArgs false
def mendErr (l : List Rep) (b k : Nat) : Int := if (rep l k).gen = (rep l b).gen then 0 else repairE (rep l b) (rep l k)
def mendTo (l : List Rep) (b : Nat) : Nat → List Rep
 | 0 => l
 | k + 1 => if (rep l k).gen = (rep l b).gen then mendTo l b k else (mendTo l b k).set k (repairR (rep l b) (rep l k))
def mendN (l : List Rep) (b : Nat) : Nat → Nat
 | 0 => 0
 | k + 1 => if (rep l k).gen = (rep l b).gen then mendN l b k else mendN l b k + 1
theorem mendTo_length (l : List Rep) (b : Nat) : ∀ k, (mendTo l b k).length = l.length
 | 0 => rfl
 | k + 1 => by unfold mendTo; split; exact mendTo_length l b k; rw [List.length_set]; exact mendTo_length l b k
theorem mendTo_ge (l : List Rep) (b : Nat) : ∀ k j, k ≤ j → j < l.length → rep (mendTo l b k) j = rep l j
 | 0, _, _, _ => rfl
 | k + 1, j, h, hj => by
  unfold mendTo
  split
  ·exact mendTo_ge l b k j (by omega) hj
  ·rw [rep_set (by rw [mendTo_length]; exact hj), if_neg (by omega)]; exact mendTo_ge l b k j (by omega) hj
theorem mendTo_best (l : List Rep) (b : Nat) (hb : b < l.length) : ∀ k, rep (mendTo l b k) b = rep l b
 | 0 => rfl
 | k + 1 => by
  unfold mendTo
  split
  ·exact mendTo_best l b hb k
  ·rename_i h
   rw [rep_set (by rw [mendTo_length]; exact hb)]
   by_cases e : b = k
   ·subst e; exact absurd rfl h
   ·rw [if_neg e]; exact mendTo_best l b hb k
theorem mendN_le (l : List Rep) (b : Nat) : ∀ k, mendN l b k ≤ k
 | 0 => Nat.le_refl _
 | k + 1 => by have := mendN_le l b k; unfold mendN; split <;> omega
def MendAt (B g c M n : Nat) (w : World) (l : List Rep) (m : Nat) : Prop :=
 ∃ F : Nat → Prop, OwnC F B w (.slice (some ⟨g, 0, none⟩) n c) l ∧ (∀ b, F b → B ≤ b ∧ b ≠ M) ∧ w.heap[M]? = some (.cells #[.slice (some ⟨g, 0, none⟩) n c, .int .i64 (m : Int)] 90 (0, 0))
set_option maxRecDepth 100000 in
set_option maxHeartbeats 8000000 in
theorem mend_any (l : List Rep) (b : Nat) (hb : b < l.length) (g c M B : Nat) (w : World) (hM : MendAt B g c M l.length w l 0) (hgM : g ≠ M) (hBM : B ≤ M) (hl : l.length ≤ 1000) (hck : ∀ i, i < l.length → checkStore (rep l i).store = 0) :
  Calls Tryz.prog 50 #[.pointer (some ⟨M, 0, none⟩), .int .i64 (b : Int)] w fun e w' => e = .returned (.int .i64 (scan (mendErr l b) l.length)) ∧ Below B w w' ∧ (scan (mendErr l b) l.length = 0 → MendAt B g c M l.length w' (mendTo l b l.length) (mendN l b l.length)) := by
 have Hck := Lib.hid hck
 have Hl := Lib.hid hl
 obtain ⟨n, hn⟩ : ∃ n, n = l.length := ⟨_, rfl⟩
 rw [← hn] at hb hM hl ⊢
 have Hn := Lib.hid hn
 obtain ⟨F0, hO0, hF0, hM0⟩ := id hM
 have hgB : B ≤ g ∧ g < w.heap.size := hO0.block rfl
 have hMs : M < w.heap.size := lt_of_block hM0
 have m0 := block_cell (j := 0) hM0 rfl
 have HM := Lib.hid hM
 clear hM hO0 hF0 hM0 hck hn F0
 have hb1 : (0 : Int) ≤ (b : Int) := by omega
 have hb2 : (b : Int) < (n : Int) := by omega
 have HLs := Lib.hid (fun k (h : scan (mendErr l b) k = 0) (hk : k < n) (e : Int) (he : mendErr l b k = e) (hne : e ≠ 0) => (scan_hit (f := mendErr l b) h (by rw [he]; exact hne) hk).trans he)
 go_enter Tryz.func50, Tryz.ntmps50
 go_wp2_with fail
 go_loopw [15] (fun i wr => ∃ k : Nat, k ≤ n ∧ i = .int .i64 k ∧ Hid (scan (mendErr l b) k = 0) ∧ Hid (MendAt B g c M n wr (mendTo l b k) (mendN l b k) ∧ Below B w wr ∧ w.heap.size ≤ wr.heap.size)) (fun i _ => n - (intOf i).toNat)
 case atStart => exact ⟨0, by omega, rfl, rfl, HM.out, Below.refl _ _, Nat.le_refl _⟩
 case round =>
  obtain ⟨k, hk, rfl, Hs, HI⟩ := hrel
  clear m0 HM
  by_cases hlt : k < n
  case neg =>
   obtain rfl : k = n := by omega
   have HI2 := Lib.hid (And.intro Hs.out HI.out)
   have hs0 := Hs.out
   go_wp2_with fail
   go_ret
   exact ⟨ret_int HI2.out.1.symm, HI2.out.2.2.1, fun _ => HI2.out.2.1⟩
  case pos =>
   obtain ⟨⟨F, hO, hF, hMb⟩, hBw, hsw⟩ := HI.out
   have HLl := Lib.hid (mendTo_length l b k)
   have hrk := mendTo_ge l b k k (Nat.le_refl _) (by rw [← Hn.out]; exact hlt)
   have hrb := mendTo_best l b (by rw [← Hn.out]; exact hb) k
   have HnT := Lib.hid (show mendTo l b (k + 1) = if (rep l k).gen = (rep l b).gen then mendTo l b k else (mendTo l b k).set k (repairR (rep l b) (rep l k)) from rfl)
   have HnN := Lib.hid (show mendN l b (k + 1) = if (rep l k).gen = (rep l b).gen then mendN l b k else mendN l b k + 1 from rfl)
   have HnE := Lib.hid (show mendErr l b k = if (rep l k).gen = (rep l b).gen then 0 else repairE (rep l b) (rep l k) from rfl)
   have hmn := mendN_le l b k
   have Hkl := Lib.hid (show k < (mendTo l b k).length by rw [HLl.out, ← Hn.out]; exact hlt)
   obtain ⟨a0, n0, cap0, fr, HN0, e0, h1, h2, h3, h4, h5⟩ := (hO.any (by rw [HLl.out]; have := Hl.out; omega)).open
   cases e0
   obtain ⟨b0, off0, e1, _, k0, k1, k2, k3, k4, k5, k6⟩ := h4 (by omega)
   cases e1
   simp only [Nat.zero_add] at k0 k1 k2 k3 k4 k5 k6
   have h5k := h5 k hlt
   have h5b := h5 b hb
   rw [hrk] at h5k
   rw [hrb] at h5b
   generalize mendTo l b k = L at *
   generalize mendN l b k = mn at *
   have K0 : ∀ x, Below wr.heap.size wr x → x.cell? ⟨g, k * 7, none⟩ = some (.slice (fr k).sa (rep l k).store.length (fr k).sc) := fun x hx => by have := k0 k x hlt hx; rw [hrk] at this; exact this
   have D0 : ∀ x, Below wr.heap.size wr x → x.cell? ⟨g, b * 7, none⟩ = some (.slice (fr b).sa (rep l b).store.length (fr b).sc) := fun x hx => by have := k0 b x hb hx; rw [hrb] at this; exact this
   have K1 : ∀ x, Below wr.heap.size wr x → x.cell? ⟨g, k * 7 + 1, none⟩ = some (.slice (fr k).ra (rep l k).refs.length (fr k).rc) := fun x hx => by have := k1 k x hlt hx; rw [hrk] at this; exact this
   have D1 : ∀ x, Below wr.heap.size wr x → x.cell? ⟨g, b * 7 + 1, none⟩ = some (.slice (fr b).ra (rep l b).refs.length (fr b).rc) := fun x hx => by have := k1 b x hb hx; rw [hrb] at this; exact this
   have K2 : ∀ x, Below wr.heap.size wr x → x.cell? ⟨g, k * 7 + 2, none⟩ = some (.int .i64 (rep l k).gen) := fun x hx => by have := k2 k x hlt hx; rw [hrk] at this; exact this
   have D2 : ∀ x, Below wr.heap.size wr x → x.cell? ⟨g, b * 7 + 2, none⟩ = some (.int .i64 (rep l b).gen) := fun x hx => by have := k2 b x hb hx; rw [hrb] at this; exact this
   have K3 : ∀ x, Below wr.heap.size wr x → x.cell? ⟨g, k * 7 + 3, none⟩ = some (.int .i64 (rep l k).phase) := fun x hx => by have := k3 k x hlt hx; rw [hrk] at this; exact this
   have D3 : ∀ x, Below wr.heap.size wr x → x.cell? ⟨g, b * 7 + 3, none⟩ = some (.int .i64 (rep l b).phase) := fun x hx => by have := k3 b x hb hx; rw [hrb] at this; exact this
   have K4 : ∀ x, Below wr.heap.size wr x → x.cell? ⟨g, k * 7 + 4, none⟩ = some (.slice (fr k).oa (rep l k).pend.objects.length (fr k).oc) := fun x hx => by have := k4 k x hlt hx; rw [hrk] at this; exact this
   have D4 : ∀ x, Below wr.heap.size wr x → x.cell? ⟨g, b * 7 + 4, none⟩ = some (.slice (fr b).oa (rep l b).pend.objects.length (fr b).oc) := fun x hx => by have := k4 b x hb hx; rw [hrb] at this; exact this
   have K5 : ∀ x, Below wr.heap.size wr x → x.cell? ⟨g, k * 7 + 5, none⟩ = some (.slice (fr k).ua (rep l k).pend.updates.length (fr k).uc) := fun x hx => by have := k5 k x hlt hx; rw [hrk] at this; exact this
   have D5 : ∀ x, Below wr.heap.size wr x → x.cell? ⟨g, b * 7 + 5, none⟩ = some (.slice (fr b).ua (rep l b).pend.updates.length (fr b).uc) := fun x hx => by have := k5 b x hb hx; rw [hrb] at this; exact this
   have K6 : ∀ x, Below wr.heap.size wr x → x.cell? ⟨g, k * 7 + 6, none⟩ = some (.bool (rep l k).pend.force) := fun x hx => by have := k6 k x hlt hx; rw [hrk] at this; exact this
   have D6 : ∀ x, Below wr.heap.size wr x → x.cell? ⟨g, b * 7 + 6, none⟩ = some (.bool (rep l b).pend.force) := fun x hx => by have := k6 b x hb hx; rw [hrb] at this; exact this
   have M0 : ∀ x, Below wr.heap.size wr x → x.cell? ⟨M, 0, none⟩ = some (.slice (some ⟨g, 0, none⟩) n c) := fun x hx => below_cell hx (block_cell (j := 0) hMb rfl)
   clear k0 k1 k2 k3 k4 k5 k6 h4 h5 hrk hrb
   obtain ⟨wo, rfl⟩ : ∃ wo : World, wo = wr := ⟨_, rfl⟩
   obtain ⟨w1, hw1⟩ : ∃ w1, w1 = wo.alloc (.cells #[.slice (fr k).sa (rep l k).store.length (fr k).sc, .slice (fr k).ra (rep l k).refs.length (fr k).rc, .int .i64 (rep l k).gen, .int .i64 (rep l k).phase, .slice (fr k).oa (rep l k).pend.objects.length (fr k).oc, .slice (fr k).ua (rep l k).pend.updates.length (fr k).uc, .bool (rep l k).pend.force] 43) := ⟨_, rfl⟩
   have hs1 : w1.heap.size = wo.heap.size + 1 := by rw [hw1]; simp
   have hbw1 : Below wo.heap.size wo w1 := by rw [hw1]; exact (Below.refl _ _).alloc (Nat.le_refl _) _
   have hg1 : w1.heap[wo.heap.size]? = some (.cells #[.slice (fr k).sa (rep l k).store.length (fr k).sc, .slice (fr k).ra (rep l k).refs.length (fr k).rc, .int .i64 (rep l k).gen, .int .i64 (rep l k).phase, .slice (fr k).oa (rep l k).pend.objects.length (fr k).oc, .slice (fr k).ua (rep l k).pend.updates.length (fr k).uc, .bool (rep l k).pend.force] 43 (0, 0)) := by rw [hw1]; exact heap_alloc_new wo _
   have hQ := cls_of wo w1 (wo.heap.size + 1) (by omega) (by omega) hbw1
   obtain ⟨Q, hQe⟩ : ∃ Q : World → Prop, Q = fun x => Below (wo.heap.size + 1) w1 x := ⟨_, rfl⟩
   rw [← hQe] at hQ
   have hQb := hQ.below
   have hQn := hQ.next
   have hQ1 : In Q w1 := by rw [hQe]; exact Below.refl _ _
   have HQu := Lib.hid (fun x y (T : Nat → Prop) (hx : In Q x) (hu : Upd T x y) (hT : ∀ b, T b → wo.heap.size + 1 ≤ b) => show In Q y by rw [hQe] at hx ⊢; exact Below.trans (hx : Below _ _ _) (hu.below (by have := Below.size (hx : Below _ _ _); omega) hT))
   have HBx := Lib.hid (fun x (hx : In Q x) => show wo.heap.size + 1 ≤ x.heap.size ∧ x.heap[wo.heap.size]? = some (.cells #[.slice (fr k).sa (rep l k).store.length (fr k).sc, .slice (fr k).ra (rep l k).refs.length (fr k).rc, .int .i64 (rep l k).gen, .int .i64 (rep l k).phase, .slice (fr k).oa (rep l k).pend.objects.length (fr k).oc, .slice (fr k).ua (rep l k).pend.updates.length (fr k).uc, .bool (rep l k).pend.force] 43 (0, 0)) by rw [hQe] at hx; have h := (hx : Below _ _ _); exact ⟨by have := h.size; omega, (h.block _ (by omega)).trans hg1⟩)
   have HSw := Lib.hid hsw
   have HBw := Lib.hid hBw
   have HO := Lib.hid hO
   have HF := Lib.hid hF
   have HMb := Lib.hid hMb
   have y2 := fun x (hx : In Q x) => block_cell (j := 2) (HBx.out x hx).2 rfl
   have E2 := fun x (hx : In Q x) => D2 x (hQb _ hx)
   have N0 := fun x (hx : In Q x) => M0 x (hQb _ hx)
   have HK : Hid (∀ x, In Q x → x.cell? ⟨wo.heap.size, 0, none⟩ = some (.slice (fr k).sa (rep l k).store.length (fr k).sc) ∧ x.cell? ⟨wo.heap.size, 1, none⟩ = some (.slice (fr k).ra (rep l k).refs.length (fr k).rc) ∧ x.cell? ⟨wo.heap.size, 2, none⟩ = some (.int .i64 (rep l k).gen) ∧ x.cell? ⟨wo.heap.size, 3, none⟩ = some (.int .i64 (rep l k).phase) ∧ x.cell? ⟨wo.heap.size, 4, none⟩ = some (.slice (fr k).oa (rep l k).pend.objects.length (fr k).oc) ∧ x.cell? ⟨wo.heap.size, 5, none⟩ = some (.slice (fr k).ua (rep l k).pend.updates.length (fr k).uc) ∧ x.cell? ⟨wo.heap.size, 6, none⟩ = some (.bool (rep l k).pend.force)) := fun x hx => ⟨block_cell (j := 0) (HBx.out x hx).2 rfl, block_cell (j := 1) (HBx.out x hx).2 rfl, block_cell (j := 2) (HBx.out x hx).2 rfl, block_cell (j := 3) (HBx.out x hx).2 rfl, block_cell (j := 4) (HBx.out x hx).2 rfl, block_cell (j := 5) (HBx.out x hx).2 rfl, block_cell (j := 6) (HBx.out x hx).2 rfl⟩
   have HD : Hid (∀ x, In Q x → x.cell? ⟨g, b * 7, none⟩ = some (.slice (fr b).sa (rep l b).store.length (fr b).sc) ∧ x.cell? ⟨g, b * 7 + 1, none⟩ = some (.slice (fr b).ra (rep l b).refs.length (fr b).rc) ∧ x.cell? ⟨g, b * 7 + 2, none⟩ = some (.int .i64 (rep l b).gen) ∧ x.cell? ⟨g, b * 7 + 3, none⟩ = some (.int .i64 (rep l b).phase) ∧ x.cell? ⟨g, b * 7 + 4, none⟩ = some (.slice (fr b).oa (rep l b).pend.objects.length (fr b).oc) ∧ x.cell? ⟨g, b * 7 + 5, none⟩ = some (.slice (fr b).ua (rep l b).pend.updates.length (fr b).uc) ∧ x.cell? ⟨g, b * 7 + 6, none⟩ = some (.bool (rep l b).pend.force)) := fun x hx => ⟨D0 x (hQb _ hx), D1 x (hQb _ hx), D2 x (hQb _ hx), D3 x (hQb _ hx), D4 x (hQb _ hx), D5 x (hQb _ hx), D6 x (hQb _ hx)⟩
   have HR := Lib.hid (fun x (hx : In Q x) => repairRaw_any (rep l b) (rep l k) _ _ _ _ _ _ _ _ _ _ x (h5b.below (hQb _ hx)) (h5k.below (hQb _ hx)) ((checkStore_zero (Hck.out b (by rw [← Hn.out]; exact hb))).1) (Hck.out k (by rw [← Hn.out]; exact hlt)))
   simp only [repV] at HR
   have x0 := K0 wo (Below.refl _ _)
   have x1 := K1 wo (Below.refl _ _)
   have x2 := K2 wo (Below.refl _ _)
   have x3 := K3 wo (Below.refl _ _)
   have x4 := K4 wo (Below.refl _ _)
   have x5 := K5 wo (Below.refl _ _)
   have x6 := K6 wo (Below.refl _ _)
   have HKc := Lib.hid (fun x (hx : In Q x) => show x.cell? ⟨g, k * 7, none⟩ = some (.slice (fr k).sa (rep l k).store.length (fr k).sc) ∧ x.cell? ⟨g, k * 7 + 1, none⟩ = some (.slice (fr k).ra (rep l k).refs.length (fr k).rc) ∧ x.cell? ⟨g, k * 7 + 2, none⟩ = some (.int .i64 (rep l k).gen) ∧ x.cell? ⟨g, k * 7 + 3, none⟩ = some (.int .i64 (rep l k).phase) ∧ x.cell? ⟨g, k * 7 + 4, none⟩ = some (.slice (fr k).oa (rep l k).pend.objects.length (fr k).oc) ∧ x.cell? ⟨g, k * 7 + 5, none⟩ = some (.slice (fr k).ua (rep l k).pend.updates.length (fr k).uc) ∧ x.cell? ⟨g, k * 7 + 6, none⟩ = some (.bool (rep l k).pend.force) from ⟨K0 x (hQb _ hx), K1 x (hQb _ hx), K2 x (hQb _ hx), K3 x (hQb _ hx), K4 x (hQb _ hx), K5 x (hQb _ hx), K6 x (hQb _ hx)⟩)
   clear K0 K1 K2 K3 K4 K5 K6 D0 D1 D2 D3 D4 D5 D6 M0 h5k h5b hO hF hMb hBw hQe hg1 hbw1 hs1
   have hi1 : (0 : Int) ≤ (k : Int) := by omega
   have hi2 : (k : Int) < (n : Int) := by omega
   have Hw1 := Lib.hid hw1
   by_cases hg : (rep l k).gen = (rep l b).gen
   case pos =>
    rw [if_pos hg] at HnT HnN HnE
    have hq : ((rep l k).gen == (rep l b).gen) = true := by simpa using hg
    have Hs2 := Lib.hid (show scan (mendErr l b) (k + 1) = 0 from scan_next Hs.out HnE.out)
    clear hg hw1 HK HD HKc
    go_wp2_with fail
    rw [← Hw1.out]
    go_quiet (fail)
    generalize hw2 : w1.drewN _ = w2 at *
    have hQ2 : In Q w2 := by rw [← hw2]; exact hQ.drewN _ _ hQ1
    clear hw2
    have HI2 := Lib.hid (show MendAt B g c M n w2 (mendTo l b (k + 1)) (mendN l b (k + 1)) ∧ Below B w w2 ∧ w.heap.size ≤ w2.heap.size from by
     rw [HnT.out, HnN.out]
     have hb := hQb _ hQ2
     have hz := HSw.out
     exact ⟨⟨F, HO.out.below hb, HF.out, (hb.block _ (by omega)).trans HMb.out⟩, HBw.out.trans (hb.mono (by omega)), Nat.le_trans hz hb.size⟩)
    clear HO HF HMb HR HI
    go_wp2_with fail
    go_roundw
    case rel => exact ⟨k + 1, by omega, by go_num, Hs2.out, HI2.out⟩
    case measure => simp [intOf]; omega
   case neg =>
    rw [if_neg hg] at HnT HnN HnE
    have hq : ((rep l k).gen == (rep l b).gen) = false := by simpa using hg
    clear hg hw1
    go_wp2_with fail
    rw [← Hw1.out]
    go_quiet (fail)
    generalize hw2 : w1.drewN _ = w2 at *
    have hQ2 : In Q w2 := by rw [← hw2]; exact hQ.drewN _ _ hQ1
    clear hw2 y2 E2 N0 hq hQ1 Hw1
    clear x0 x1 x2 x3 x4 x5 x6
    go_wp2_with fail
    refine wp_region_held (S := In Q) (by kernel_rfl) ?_
    change wpAnyH _ _ _ _ _ _ _ _ (World.drew _)
    have hC0 := hQ.drew _ hQ2
    generalize w2.drew = x0 at hC0 ⊢
    clear hQ2
    have HM0 := Lib.hid (fun x (hx : In Q x) => show x.cell? ⟨M, 0, none⟩ = some (.slice (some ⟨g, 0, none⟩) n c) from below_cell (hQb _ hx) (block_cell (j := 0) HMb.out rfl))
    refine wpAnyH_take (i := 0) (v := .pointer (some ⟨M, 0, none⟩)) rfl (by kernel_rfl) (by kernel_rfl) (by kernel_rfl) (fun _ _ _ h => h) (Or.inl ⟨by rfl, fun w hSw => ?_⟩) hC0 ?_
    ·go_simp
    simp only [Act.put, List.getElem_toArray, List.getElem_cons_zero, List.getElem_cons_succ, List.setIfInBounds_toArray, List.set_cons_zero, List.set_cons_succ]
    refine wpAnyH_take (i := 1) (v := .pointer (some ⟨M, 0, none⟩)) rfl (by kernel_rfl) (by kernel_rfl) (by kernel_rfl) (fun _ _ _ h => h) (Or.inl ⟨by rfl, fun w hSw => ?_⟩) hC0 ?_
    ·go_simp
    simp only [Act.put, List.getElem_toArray, List.getElem_cons_zero, List.getElem_cons_succ, List.setIfInBounds_toArray, List.set_cons_zero, List.set_cons_succ]
    refine wpAnyH_take (i := 2) (v := .pointer (some ⟨M, 0, none⟩)) rfl (by kernel_rfl) (by kernel_rfl) (by kernel_rfl) (fun _ _ _ h => h) (Or.inl ⟨by rfl, fun w hSw => ?_⟩) hC0 ?_
    ·go_simp
    simp only [Act.put, List.getElem_toArray, List.getElem_cons_zero, List.getElem_cons_succ, List.setIfInBounds_toArray, List.set_cons_zero, List.set_cons_succ]
    refine wpAnyH_take (i := 3) (v := .pointer (some ⟨M, 0, none⟩)) rfl (by kernel_rfl) (by kernel_rfl) (by kernel_rfl) (fun _ _ _ h => h) (Or.inl ⟨by rfl, fun w hSw => ?_⟩) hC0 ?_
    ·go_simp
    simp only [Act.put, List.getElem_toArray, List.getElem_cons_zero, List.getElem_cons_succ, List.setIfInBounds_toArray, List.set_cons_zero, List.set_cons_succ]
    refine wpAnyH_take (i := 4) (v := .slice (some ⟨g, 0, none⟩) n c) rfl (by kernel_rfl) (by kernel_rfl) (by kernel_rfl) (fun _ _ _ h => h) (Or.inl ⟨by rfl, fun w hSw => ?_⟩) hC0 ?_
    ·have yy := HM0.out _ hSw; go_simp
    simp only [Act.put, List.getElem_toArray, List.getElem_cons_zero, List.getElem_cons_succ, List.setIfInBounds_toArray, List.set_cons_zero, List.set_cons_succ]
    refine wpAnyH_take (i := 5) (v := .int .i64 (b : Int)) rfl (by kernel_rfl) (by kernel_rfl) (by kernel_rfl) (fun _ _ _ h => h) (Or.inl ⟨by rfl, fun w hSw => ?_⟩) hC0 ?_
    ·go_simp
    simp only [Act.put, List.getElem_toArray, List.getElem_cons_zero, List.getElem_cons_succ, List.setIfInBounds_toArray, List.set_cons_zero, List.set_cons_succ]
    refine wpAnyH_take (i := 6) (v := .pointer (some ⟨g, b * 7, none⟩)) rfl (by kernel_rfl) (by kernel_rfl) (by kernel_rfl) (fun _ _ _ h => h) (Or.inl ⟨by rfl, fun w hSw => ?_⟩) hC0 ?_
    ·go_simp
    simp only [Act.put, List.getElem_toArray, List.getElem_cons_zero, List.getElem_cons_succ, List.setIfInBounds_toArray, List.set_cons_zero, List.set_cons_succ]
    refine wpAnyH_take (i := 7) (v := .agg #[.slice (fr b).sa (rep l b).store.length (fr b).sc, .slice (fr b).ra (rep l b).refs.length (fr b).rc, .int .i64 (rep l b).gen, .int .i64 (rep l b).phase, .slice (fr b).oa (rep l b).pend.objects.length (fr b).oc, .slice (fr b).ua (rep l b).pend.updates.length (fr b).uc, .bool (rep l b).pend.force]) rfl (by kernel_rfl) (by kernel_rfl) (by kernel_rfl) (fun _ _ _ h => h) (Or.inl ⟨by rfl, fun w hSw => ?_⟩) hC0 ?_
    ·obtain ⟨y0, y1, y2, y3, y4, y5, y6⟩ := HD.out _ hSw; go_simp
    simp only [Act.put, List.getElem_toArray, List.getElem_cons_zero, List.getElem_cons_succ, List.setIfInBounds_toArray, List.set_cons_zero, List.set_cons_succ]
    refine wpAnyH_take (i := 8) (v := .agg #[.slice (fr k).sa (rep l k).store.length (fr k).sc, .slice (fr k).ra (rep l k).refs.length (fr k).rc, .int .i64 (rep l k).gen, .int .i64 (rep l k).phase, .slice (fr k).oa (rep l k).pend.objects.length (fr k).oc, .slice (fr k).ua (rep l k).pend.updates.length (fr k).uc, .bool (rep l k).pend.force]) rfl (by kernel_rfl) (by kernel_rfl) (by kernel_rfl) (fun _ _ _ h => h) (Or.inl ⟨by rfl, fun w hSw => ?_⟩) hC0 ?_
    ·obtain ⟨y0, y1, y2, y3, y4, y5, y6⟩ := HK.out _ hSw; go_simp
    simp only [Act.put, List.getElem_toArray, List.getElem_cons_zero, List.getElem_cons_succ, List.setIfInBounds_toArray, List.set_cons_zero, List.set_cons_succ]
    clear HD HK
    generalize hrr : repairR (rep l b) (rep l k) = rr at *
    generalize hre : repairE (rep l b) (rep l k) = re at *
    refine wpAnyH_all (rs := [9, 13]) (by kernel_rfl) (by simp) (fun j hj => ?_)
    rcases List.mem_cons.1 hj with rfl | hj
    ·refine Or.inl ?_
     go_wp2_with fail
     refine (HR.out _ hC0).mono ?_
     rintro e x1 ⟨sv1, rv1, ov1, uv1, rfl, hv, hb1⟩
     have hC1 := hQn _ _ hC0 hb1
     obtain ⟨sa1, sc1, rfl⟩ := hv.store.vshape
     obtain ⟨⟨ra1, rc1⟩, rfl⟩ := hv.refs.shape
     obtain ⟨oa1, oc1, rfl⟩ := hv.objs.vshape
     obtain ⟨⟨ua1, uc1⟩, rfl⟩ := hv.upds.shape
     have hxs := hb1.size
     have hx0 := (HBx.out _ hC0).1
     have Hv := Lib.hid hv.lt
     clear hv
     simp only [repV]
     go_simp
     refine wpAnyH_take (i := 10) (v := .tuple #[.agg #[.slice sa1 rr.store.length sc1, .slice ra1 rr.refs.length rc1, .int .i64 rr.gen, .int .i64 rr.phase, .slice oa1 rr.pend.objects.length oc1, .slice ua1 rr.pend.updates.length uc1, .bool rr.pend.force], .int .i64 re]) rfl (by kernel_rfl) (by kernel_rfl) (by kernel_rfl) (fun _ _ _ h => h) (Or.inl ⟨by rfl, fun w hSw => ?_⟩) hC1 ?_
     ·go_simp
     simp only [Act.put, List.getElem_toArray, List.getElem_cons_zero, List.getElem_cons_succ, List.setIfInBounds_toArray, List.set_cons_zero, List.set_cons_succ]
     refine wpAnyH_take (i := 11) (v := .agg #[.slice sa1 rr.store.length sc1, .slice ra1 rr.refs.length rc1, .int .i64 rr.gen, .int .i64 rr.phase, .slice oa1 rr.pend.objects.length oc1, .slice ua1 rr.pend.updates.length uc1, .bool rr.pend.force]) rfl (by kernel_rfl) (by kernel_rfl) (by kernel_rfl) (fun _ _ _ h => h) (Or.inl ⟨by rfl, fun w hSw => ?_⟩) hC1 ?_
     ·go_simp
     simp only [Act.put, List.getElem_toArray, List.getElem_cons_zero, List.getElem_cons_succ, List.setIfInBounds_toArray, List.set_cons_zero, List.set_cons_succ]
     refine wpAnyH_take (i := 12) (v := .int .i64 re) rfl (by kernel_rfl) (by kernel_rfl) (by kernel_rfl) (fun _ _ _ h => h) (Or.inl ⟨by rfl, fun w hSw => ?_⟩) hC1 ?_
     ·go_simp
     simp only [Act.put, List.getElem_toArray, List.getElem_cons_zero, List.getElem_cons_succ, List.setIfInBounds_toArray, List.set_cons_zero, List.set_cons_succ]
     refine wpAnyH_all (rs := [13]) (by kernel_rfl) (by simp) (fun j hj => ?_)
     obtain rfl : j = 13 := by simpa using hj
     refine Or.inl ?_
     have hC2 := hQ.alloc _ (.cells zero7 43) hC1
     simp only [zero7] at hC2
     go_simp
     have hDb : (x1.alloc (.cells #[.slice none 0 0, .slice none 0 0, .int .i64 0, .int .i64 0, .slice none 0 0, .slice none 0 0, .bool false] 43)).heap[x1.heap.size]? = some (.cells zero7 43 (0, 0)) := heap_alloc_new x1 _
     have Hv2 := Lib.hid ((Hv.out.below ((Below.refl _ _).alloc (Nat.le_refl _) (.cells #[.slice none 0 0, .slice none 0 0, .int .i64 0, .int .i64 0, .slice none 0 0, .slice none 0 0, .bool false] 43))).weaken (S' := fun b => wo.heap.size + 1 ≤ b ∧ b ≠ x1.heap.size) fun b hb => ⟨by omega, by omega⟩)
     have hDge : wo.heap.size + 1 ≤ x1.heap.size := by omega
     generalize hDn : x1.heap.size = D at *
     generalize x1.alloc (.cells #[.slice none 0 0, .slice none 0 0, .int .i64 0, .int .i64 0, .slice none 0 0, .slice none 0 0, .bool false] 43) = x2 at *
     clear Hv hxs hb1
     have hblk := hDb
     simp only [zero7] at hblk
     have g0 := block_cell (j := 0) hblk rfl
     have g1 := block_cell (j := 1) hblk rfl
     have g2 := block_cell (j := 2) hblk rfl
     have g3 := block_cell (j := 3) hblk rfl
     have g4 := block_cell (j := 4) hblk rfl
     have g5 := block_cell (j := 5) hblk rfl
     have g6 := block_cell (j := 6) hblk rfl
     have f0 := block_free (j := 0) hblk
     have f1 := block_free (j := 1) hblk
     have f2 := block_free (j := 2) hblk
     have f3 := block_free (j := 3) hblk
     have f4 := block_free (j := 4) hblk
     have f5 := block_free (j := 5) hblk
     have f6 := block_free (j := 6) hblk
     refine wpAnyH_all (rs := [14]) (by kernel_rfl) (by simp) (fun j hj => ?_)
     obtain rfl : j = 14 := by simpa using hj
     refine Or.inl ?_
     have Hb7 := Lib.hid (set7_is (v0 := .slice sa1 rr.store.length sc1) (v1 := .slice ra1 rr.refs.length rc1) (v2 := .int .i64 rr.gen) (v3 := .int .i64 rr.phase) (v4 := .slice oa1 rr.pend.objects.length oc1) (v5 := .slice ua1 rr.pend.updates.length uc1) (v6 := .bool rr.pend.force) hblk)
     have Hu7 := Lib.hid (set7_upd D (.slice sa1 rr.store.length sc1) (.slice ra1 rr.refs.length rc1) (.int .i64 rr.gen) (.int .i64 rr.phase) (.slice oa1 rr.pend.objects.length oc1) (.slice ua1 rr.pend.updates.length uc1) (.bool rr.pend.force) x2)
     have hQ7 := HQu.out _ _ _ hC2 Hu7.out (fun b hb => by omega)
     go_wp2_with fail
     refine ⟨hQ7, ?_⟩
     change wpAnyH _ _ _ _ _ _ _ _ (set7 D (.slice sa1 rr.store.length sc1) (.slice ra1 rr.refs.length rc1) (.int .i64 rr.gen) (.int .i64 rr.phase) (.slice oa1 rr.pend.objects.length oc1) (.slice ua1 rr.pend.updates.length uc1) (.bool rr.pend.force) x2)
     have hb7 := Hb7.out
     have hu7 := Hu7.out
     clear Hb7 Hu7
     generalize set7 D (.slice sa1 rr.store.length sc1) (.slice ra1 rr.refs.length rc1) (.int .i64 rr.gen) (.int .i64 rr.phase) (.slice oa1 rr.pend.objects.length oc1) (.slice ua1 rr.pend.updates.length uc1) (.bool rr.pend.force) x2 = w7 at *
     have Hv7 := Lib.hid (Hv2.out.upd hu7 (fun b hb e => hb.2 e))
     clear g0 g1 g2 g3 g4 g5 g6 f0 f1 f2 f3 f4 f5 f6 hblk hu7
     refine wpAnyH_all (rs := [15]) (by kernel_rfl) (by simp) (fun j hj => ?_)
     obtain rfl : j = 15 := by simpa using hj
     refine Or.inl ?_
     go_wp2_with fail
     first | refine ⟨hQ7, ?_⟩ | skip
     refine wpAnyH_done (by kernel_rfl) ?_ _
     by_cases hz : re = 0
     case neg =>
      have HE := Lib.hid (HLs.out k Hs.out hlt re HnE.out hz)
      have hq2 : (re != 0) = true := by simpa using hz
      clear hz
      have HB7 := Lib.hid (HBw.out.trans ((hQb _ hQ7).mono (by have := HSw.out; omega)))
      go_wp2_with fail
      go_ret
      exact ⟨ret_int HE.out.symm, HB7.out, fun h => absurd (HE.out.symm.trans h) (by simpa using hq2)⟩
     case pos =>
      subst hz
      have Hs2 := Lib.hid (show scan (mendErr l b) (k + 1) = 0 from scan_next Hs.out HnE.out)
      go_wp2_with fail
      have hDs : D < w7.heap.size := lt_of_block hb7
      obtain ⟨T, hT, hT1, hTall⟩ := cls_plain w7
      have hTQ : ∀ x, In T x → In Q x := fun x hx => hQn _ _ hQ7 (hT.below _ hx)
      have HVT := Lib.hid (fun x (hx : In T x) => show x.cell? ⟨D, 0, none⟩ = some (.slice sa1 rr.store.length sc1) ∧ x.cell? ⟨D, 1, none⟩ = some (.slice ra1 rr.refs.length rc1) ∧ x.cell? ⟨D, 2, none⟩ = some (.int .i64 rr.gen) ∧ x.cell? ⟨D, 3, none⟩ = some (.int .i64 rr.phase) ∧ x.cell? ⟨D, 4, none⟩ = some (.slice oa1 rr.pend.objects.length oc1) ∧ x.cell? ⟨D, 5, none⟩ = some (.slice ua1 rr.pend.updates.length uc1) ∧ x.cell? ⟨D, 6, none⟩ = some (.bool rr.pend.force) from ⟨below_cell (hT.below _ hx) (block_cell (j := 0) hb7 rfl), below_cell (hT.below _ hx) (block_cell (j := 1) hb7 rfl), below_cell (hT.below _ hx) (block_cell (j := 2) hb7 rfl), below_cell (hT.below _ hx) (block_cell (j := 3) hb7 rfl), below_cell (hT.below _ hx) (block_cell (j := 4) hb7 rfl), below_cell (hT.below _ hx) (block_cell (j := 5) hb7 rfl), below_cell (hT.below _ hx) (block_cell (j := 6) hb7 rfl)⟩)
      have hM8 := fun x (hx : In T x) => HM0.out x (hTQ x hx)
      refine wp_region_held (S := (fun x : World => x.cell? ⟨M, 0, none⟩ = some (.slice (some ⟨g, 0, none⟩) n c) ∧ x.cell? ⟨D, 0, none⟩ = some (.slice sa1 rr.store.length sc1) ∧ x.cell? ⟨D, 1, none⟩ = some (.slice ra1 rr.refs.length rc1) ∧ x.cell? ⟨D, 2, none⟩ = some (.int .i64 rr.gen) ∧ x.cell? ⟨D, 3, none⟩ = some (.int .i64 rr.phase) ∧ x.cell? ⟨D, 4, none⟩ = some (.slice oa1 rr.pend.objects.length oc1) ∧ x.cell? ⟨D, 5, none⟩ = some (.slice ua1 rr.pend.updates.length uc1) ∧ x.cell? ⟨D, 6, none⟩ = some (.bool rr.pend.force))) (by kernel_rfl) ?_
      change wpAnyH _ _ _ _ _ _ _ _ (World.drew _)
      have hT0 := hT.drew _ hT1
      generalize w7.drew = y0 at hT0 ⊢
      have hS8 : (fun x : World => x.cell? ⟨M, 0, none⟩ = some (.slice (some ⟨g, 0, none⟩) n c) ∧ x.cell? ⟨D, 0, none⟩ = some (.slice sa1 rr.store.length sc1) ∧ x.cell? ⟨D, 1, none⟩ = some (.slice ra1 rr.refs.length rc1) ∧ x.cell? ⟨D, 2, none⟩ = some (.int .i64 rr.gen) ∧ x.cell? ⟨D, 3, none⟩ = some (.int .i64 rr.phase) ∧ x.cell? ⟨D, 4, none⟩ = some (.slice oa1 rr.pend.objects.length oc1) ∧ x.cell? ⟨D, 5, none⟩ = some (.slice ua1 rr.pend.updates.length uc1) ∧ x.cell? ⟨D, 6, none⟩ = some (.bool rr.pend.force)) y0 := ⟨hM8 _ hT0, HVT.out _ hT0⟩
      refine wpAnyH_take (i := 0) (v := .pointer (some ⟨M, 0, none⟩)) rfl (by kernel_rfl) (by kernel_rfl) (by kernel_rfl) (fun _ _ _ h => h) (Or.inl ⟨by rfl, fun w hSw => ?_⟩) hS8 ?_
      ·go_simp
      simp only [Act.put, List.getElem_toArray, List.getElem_cons_zero, List.getElem_cons_succ, List.setIfInBounds_toArray, List.set_cons_zero, List.set_cons_succ]
      refine wpAnyH_take (i := 1) (v := .pointer (some ⟨M, 0, none⟩)) rfl (by kernel_rfl) (by kernel_rfl) (by kernel_rfl) (fun _ _ _ h => h) (Or.inl ⟨by rfl, fun w hSw => ?_⟩) hS8 ?_
      ·go_simp
      simp only [Act.put, List.getElem_toArray, List.getElem_cons_zero, List.getElem_cons_succ, List.setIfInBounds_toArray, List.set_cons_zero, List.set_cons_succ]
      refine wpAnyH_take (i := 2) (v := .pointer (some ⟨M, 0, none⟩)) rfl (by kernel_rfl) (by kernel_rfl) (by kernel_rfl) (fun _ _ _ h => h) (Or.inl ⟨by rfl, fun w hSw => ?_⟩) hS8 ?_
      ·go_simp
      simp only [Act.put, List.getElem_toArray, List.getElem_cons_zero, List.getElem_cons_succ, List.setIfInBounds_toArray, List.set_cons_zero, List.set_cons_succ]
      refine wpAnyH_take (i := 3) (v := .pointer (some ⟨M, 0, none⟩)) rfl (by kernel_rfl) (by kernel_rfl) (by kernel_rfl) (fun _ _ _ h => h) (Or.inl ⟨by rfl, fun w hSw => ?_⟩) hS8 ?_
      ·go_simp
      simp only [Act.put, List.getElem_toArray, List.getElem_cons_zero, List.getElem_cons_succ, List.setIfInBounds_toArray, List.set_cons_zero, List.set_cons_succ]
      refine wpAnyH_take (i := 4) (v := .slice (some ⟨g, 0, none⟩) n c) rfl (by kernel_rfl) (by kernel_rfl) (by kernel_rfl) (fun _ _ _ h => h) (Or.inl ⟨by rfl, fun w hSw => ?_⟩) hS8 ?_
      ·have yy := hSw.1; go_simp
      simp only [Act.put, List.getElem_toArray, List.getElem_cons_zero, List.getElem_cons_succ, List.setIfInBounds_toArray, List.set_cons_zero, List.set_cons_succ]
      refine wpAnyH_take (i := 5) (v := .int .i64 (k : Int)) rfl (by kernel_rfl) (by kernel_rfl) (by kernel_rfl) (fun _ _ _ h => h) (Or.inl ⟨by rfl, fun w hSw => ?_⟩) hS8 ?_
      ·go_simp
      simp only [Act.put, List.getElem_toArray, List.getElem_cons_zero, List.getElem_cons_succ, List.setIfInBounds_toArray, List.set_cons_zero, List.set_cons_succ]
      refine wpAnyH_take (i := 6) (v := .agg #[.slice sa1 rr.store.length sc1, .slice ra1 rr.refs.length rc1, .int .i64 rr.gen, .int .i64 rr.phase, .slice oa1 rr.pend.objects.length oc1, .slice ua1 rr.pend.updates.length uc1, .bool rr.pend.force]) rfl (by kernel_rfl) (by kernel_rfl) (by kernel_rfl) (fun _ _ _ h => h) (Or.inl ⟨by rfl, fun w hSw => ?_⟩) hS8 ?_
      ·obtain ⟨_, u0, u1, u2, u3, u4, u5, u6⟩ := hSw; go_simp
      simp only [Act.put, List.getElem_toArray, List.getElem_cons_zero, List.getElem_cons_succ, List.setIfInBounds_toArray, List.set_cons_zero, List.set_cons_succ]
      refine wpAnyH_take (i := 7) (v := .pointer (some ⟨g, k * 7, none⟩)) rfl (by kernel_rfl) (by kernel_rfl) (by kernel_rfl) (fun _ _ _ h => h) (Or.inl ⟨by rfl, fun w hSw => ?_⟩) hS8 ?_
      ·go_simp
      simp only [Act.put, List.getElem_toArray, List.getElem_cons_zero, List.getElem_cons_succ, List.setIfInBounds_toArray, List.set_cons_zero, List.set_cons_succ]
      refine wpAnyH_all (rs := [8]) (by kernel_rfl) (by simp) (fun j hj => ?_)
      obtain rfl : j = 8 := by simpa using hj
      refine Or.inl ?_
      obtain ⟨z0, z1, z2, z3, z4, z5, z6⟩ := HKc.out _ (hTQ _ hT0)
      have hOy := HO.out.below (hQb _ (hTQ _ hT0))
      have f0 := hOy.free (k * 7)
      have f1 := hOy.free (k * 7 + 1)
      have f2 := hOy.free (k * 7 + 2)
      have f3 := hOy.free (k * 7 + 3)
      have f4 := hOy.free (k * 7 + 4)
      have f5 := hOy.free (k * 7 + 5)
      have f6 := hOy.free (k * 7 + 6)
      have hset := hOy.set (i := k) (r := rr) (x := ⟨.slice sa1 rr.store.length sc1, .slice ra1 rr.refs.length rc1, .slice oa1 rr.pend.objects.length oc1, .slice ua1 rr.pend.updates.length uc1⟩) Hkl.out (S2 := fun b => wo.heap.size + 1 ≤ b ∧ b < y0.heap.size) (RepIs.weaken (RepIs.lt (Hv7.out.below (hT.below _ hT0))) fun b hb => ⟨hb.1.1, hb.2⟩) (fun b hb => ⟨hb.2, fun e => by have := HSw.out; omega⟩)
      have Hset := Lib.hid hset
      have hMy : y0.heap[M]? = some (.cells #[.slice (some ⟨g, 0, none⟩) n c, .int .i64 (mn : Int)] 90 (0, 0)) := ((hQb _ (hTQ _ hT0)).block _ (by have := HSw.out; omega)).trans HMb.out
      have HMy := Lib.hid hMy
      have hBy := HBw.out.trans ((hQb _ (hTQ _ hT0)).mono (by have := HSw.out; omega))
      have HBy := Lib.hid hBy
      have hys := (hQb _ (hTQ _ hT0)).size
      have HS8 := Lib.hid hS8
      clear hset hOy hMy hBy hM8
      go_wp2_with fail
      first | refine ⟨by kernel_rfl, ?_⟩ | refine ⟨HS8.out, by kernel_rfl, ?_⟩
      change Exit.then _ _ _ _ (y0.setCells g (k * 7) (repC rr ⟨.slice sa1 rr.store.length sc1, .slice ra1 rr.refs.length rc1, .slice oa1 rr.pend.objects.length oc1, .slice ua1 rr.pend.updates.length uc1⟩))
      have hM9 := (Hset.out.2).blk HMy.out (fun e => hgM e.symm)
      have hB9 := HBy.out.trans (Hset.out.2.below (B := B) (by have := HSw.out; omega) (fun b hb => by omega))
      have hO9 := Hset.out.1
      have hz9 := Hset.out.2.size
      clear Hset HMy HBy z0 z1 z2 z3 z4 z5 z6 f0 f1 f2 f3 f4 f5 f6
      generalize y0.setCells g (k * 7) (repC rr ⟨.slice sa1 rr.store.length sc1, .slice ra1 rr.refs.length rc1, .slice oa1 rr.pend.objects.length oc1, .slice ua1 rr.pend.updates.length uc1⟩) = w9 at *
      have j1 := block_cell (j := 1) hM9 rfl
      have j2 := block_free (j := 1) hM9
      have hw2 := wrap_in (n := (mn : Int) + 1) (by have := Hl.out; have := Hn.out; omega)
      have hu10 : Upd (fun b => b = M) w9 (w9.setCell ⟨M, 1, none⟩ (.int .i64 ((mn : Int) + 1))) := (Upd.refl (fun b => b = M) w9).setCell (p := ⟨M, 1, none⟩) (fun _ => rfl) _
      have hM10 : (w9.setCell ⟨M, 1, none⟩ (.int .i64 ((mn : Int) + 1))).heap[M]? = some (.cells #[.slice (some ⟨g, 0, none⟩) n c, .int .i64 ((mn + 1 : Nat) : Int)] 90 (0, 0)) := block_setCell (j := 1) hM9 (.int .i64 ((mn : Int) + 1))
      have HI2 := Lib.hid (show MendAt B g c M n (w9.setCell ⟨M, 1, none⟩ (.int .i64 ((mn : Int) + 1))) (mendTo l b (k + 1)) (mendN l b (k + 1)) ∧ Below B w (w9.setCell ⟨M, 1, none⟩ (.int .i64 ((mn : Int) + 1))) ∧ w.heap.size ≤ (w9.setCell ⟨M, 1, none⟩ (.int .i64 ((mn : Int) + 1))).heap.size from by
       rw [HnT.out, HnN.out]
       have hz := HSw.out
       have hFM : ∀ b, (F b ∨ (wo.heap.size + 1 ≤ b ∧ b < y0.heap.size)) → B ≤ b ∧ b ≠ M := fun b hb => by rcases hb with hb | hb; exact HF.out b hb; exact ⟨by omega, by omega⟩
       exact ⟨⟨_, hO9.upd hu10 (fun b hb e => (hFM b hb).2 e) (fun q hq e => by subst e; cases hq; exact hgM rfl), hFM, hM10⟩, hB9.trans (hu10.below (B := B) (by omega) (fun b hb => by omega)), by have := hu10.size; omega⟩)
      clear hO9 hM9 hB9 hM10 hu10 HO HF HMb HR HI HVT HKc
      go_wp2_with fail
      go_roundw
      case rel => exact ⟨k + 1, by omega, by go_num, Hs2.out, HI2.out⟩
      case measure => simp [intOf]; omega
    ·obtain rfl : j = 13 := by simpa using hj
     refine Or.inl ?_
     have hC2 := hQ.alloc _ (.cells zero7 43) hC0
     simp only [zero7] at hC2
     go_simp
     have hDb : (x0.alloc (.cells #[.slice none 0 0, .slice none 0 0, .int .i64 0, .int .i64 0, .slice none 0 0, .slice none 0 0, .bool false] 43)).heap[x0.heap.size]? = some (.cells zero7 43 (0, 0)) := heap_alloc_new x0 _
     have hDge : wo.heap.size + 1 ≤ x0.heap.size := (HBx.out _ hC0).1
     have hDlt : x0.heap.size < (x0.alloc (.cells #[.slice none 0 0, .slice none 0 0, .int .i64 0, .int .i64 0, .slice none 0 0, .slice none 0 0, .bool false] 43)).heap.size := by simp
     generalize hDn : x0.heap.size = D at *
     generalize x0.alloc (.cells #[.slice none 0 0, .slice none 0 0, .int .i64 0, .int .i64 0, .slice none 0 0, .slice none 0 0, .bool false] 43) = x2 at *
     refine wpAnyH_all (rs := [9]) (by kernel_rfl) (by simp) (fun j hj => ?_)
     obtain rfl : j = 9 := by simpa using hj
     refine Or.inl ?_
     go_wp2_with fail
     refine (HR.out _ hC2).mono ?_
     rintro e x1 ⟨sv1, rv1, ov1, uv1, rfl, hv, hb1⟩
     have hC1 := hQn _ _ hC2 hb1
     obtain ⟨sa1, sc1, rfl⟩ := hv.store.vshape
     obtain ⟨⟨ra1, rc1⟩, rfl⟩ := hv.refs.shape
     obtain ⟨oa1, oc1, rfl⟩ := hv.objs.vshape
     obtain ⟨⟨ua1, uc1⟩, rfl⟩ := hv.upds.shape
     have hxs := hb1.size
     have hx0 := (HBx.out _ hC2).1
     have Hv := Lib.hid hv.lt
     clear hv
     simp only [repV]
     go_simp
     refine wpAnyH_take (i := 10) (v := .tuple #[.agg #[.slice sa1 rr.store.length sc1, .slice ra1 rr.refs.length rc1, .int .i64 rr.gen, .int .i64 rr.phase, .slice oa1 rr.pend.objects.length oc1, .slice ua1 rr.pend.updates.length uc1, .bool rr.pend.force], .int .i64 re]) rfl (by kernel_rfl) (by kernel_rfl) (by kernel_rfl) (fun _ _ _ h => h) (Or.inl ⟨by rfl, fun w hSw => ?_⟩) hC1 ?_
     ·go_simp
     simp only [Act.put, List.getElem_toArray, List.getElem_cons_zero, List.getElem_cons_succ, List.setIfInBounds_toArray, List.set_cons_zero, List.set_cons_succ]
     refine wpAnyH_take (i := 11) (v := .agg #[.slice sa1 rr.store.length sc1, .slice ra1 rr.refs.length rc1, .int .i64 rr.gen, .int .i64 rr.phase, .slice oa1 rr.pend.objects.length oc1, .slice ua1 rr.pend.updates.length uc1, .bool rr.pend.force]) rfl (by kernel_rfl) (by kernel_rfl) (by kernel_rfl) (fun _ _ _ h => h) (Or.inl ⟨by rfl, fun w hSw => ?_⟩) hC1 ?_
     ·go_simp
     simp only [Act.put, List.getElem_toArray, List.getElem_cons_zero, List.getElem_cons_succ, List.setIfInBounds_toArray, List.set_cons_zero, List.set_cons_succ]
     refine wpAnyH_take (i := 12) (v := .int .i64 re) rfl (by kernel_rfl) (by kernel_rfl) (by kernel_rfl) (fun _ _ _ h => h) (Or.inl ⟨by rfl, fun w hSw => ?_⟩) hC1 ?_
     ·go_simp
     simp only [Act.put, List.getElem_toArray, List.getElem_cons_zero, List.getElem_cons_succ, List.setIfInBounds_toArray, List.set_cons_zero, List.set_cons_succ]
     replace hDb := (hb1.block _ hDlt).trans hDb
     have Hv2 := Lib.hid (Hv.out.weaken (S' := fun b => wo.heap.size + 1 ≤ b ∧ b ≠ D) fun b hb => ⟨by omega, by omega⟩)
     clear Hv hb1
     have hblk := hDb
     simp only [zero7] at hblk
     have g0 := block_cell (j := 0) hblk rfl
     have g1 := block_cell (j := 1) hblk rfl
     have g2 := block_cell (j := 2) hblk rfl
     have g3 := block_cell (j := 3) hblk rfl
     have g4 := block_cell (j := 4) hblk rfl
     have g5 := block_cell (j := 5) hblk rfl
     have g6 := block_cell (j := 6) hblk rfl
     have f0 := block_free (j := 0) hblk
     have f1 := block_free (j := 1) hblk
     have f2 := block_free (j := 2) hblk
     have f3 := block_free (j := 3) hblk
     have f4 := block_free (j := 4) hblk
     have f5 := block_free (j := 5) hblk
     have f6 := block_free (j := 6) hblk
     refine wpAnyH_all (rs := [14]) (by kernel_rfl) (by simp) (fun j hj => ?_)
     obtain rfl : j = 14 := by simpa using hj
     refine Or.inl ?_
     have Hb7 := Lib.hid (set7_is (v0 := .slice sa1 rr.store.length sc1) (v1 := .slice ra1 rr.refs.length rc1) (v2 := .int .i64 rr.gen) (v3 := .int .i64 rr.phase) (v4 := .slice oa1 rr.pend.objects.length oc1) (v5 := .slice ua1 rr.pend.updates.length uc1) (v6 := .bool rr.pend.force) hblk)
     have Hu7 := Lib.hid (set7_upd D (.slice sa1 rr.store.length sc1) (.slice ra1 rr.refs.length rc1) (.int .i64 rr.gen) (.int .i64 rr.phase) (.slice oa1 rr.pend.objects.length oc1) (.slice ua1 rr.pend.updates.length uc1) (.bool rr.pend.force) x1)
     have hQ7 := HQu.out _ _ _ hC1 Hu7.out (fun b hb => by omega)
     go_wp2_with fail
     refine ⟨hQ7, ?_⟩
     change wpAnyH _ _ _ _ _ _ _ _ (set7 D (.slice sa1 rr.store.length sc1) (.slice ra1 rr.refs.length rc1) (.int .i64 rr.gen) (.int .i64 rr.phase) (.slice oa1 rr.pend.objects.length oc1) (.slice ua1 rr.pend.updates.length uc1) (.bool rr.pend.force) x1)
     have hb7 := Hb7.out
     have hu7 := Hu7.out
     clear Hb7 Hu7
     generalize set7 D (.slice sa1 rr.store.length sc1) (.slice ra1 rr.refs.length rc1) (.int .i64 rr.gen) (.int .i64 rr.phase) (.slice oa1 rr.pend.objects.length oc1) (.slice ua1 rr.pend.updates.length uc1) (.bool rr.pend.force) x1 = w7 at *
     have Hv7 := Lib.hid (Hv2.out.upd hu7 (fun b hb e => hb.2 e))
     clear g0 g1 g2 g3 g4 g5 g6 f0 f1 f2 f3 f4 f5 f6 hblk hu7
     refine wpAnyH_all (rs := [15]) (by kernel_rfl) (by simp) (fun j hj => ?_)
     obtain rfl : j = 15 := by simpa using hj
     refine Or.inl ?_
     go_wp2_with fail
     first | refine ⟨hQ7, ?_⟩ | skip
     refine wpAnyH_done (by kernel_rfl) ?_ _
     by_cases hz : re = 0
     case neg =>
      have HE := Lib.hid (HLs.out k Hs.out hlt re HnE.out hz)
      have hq2 : (re != 0) = true := by simpa using hz
      clear hz
      have HB7 := Lib.hid (HBw.out.trans ((hQb _ hQ7).mono (by have := HSw.out; omega)))
      go_wp2_with fail
      go_ret
      exact ⟨ret_int HE.out.symm, HB7.out, fun h => absurd (HE.out.symm.trans h) (by simpa using hq2)⟩
     case pos =>
      subst hz
      have Hs2 := Lib.hid (show scan (mendErr l b) (k + 1) = 0 from scan_next Hs.out HnE.out)
      go_wp2_with fail
      have hDs : D < w7.heap.size := lt_of_block hb7
      obtain ⟨T, hT, hT1, hTall⟩ := cls_plain w7
      have hTQ : ∀ x, In T x → In Q x := fun x hx => hQn _ _ hQ7 (hT.below _ hx)
      have HVT := Lib.hid (fun x (hx : In T x) => show x.cell? ⟨D, 0, none⟩ = some (.slice sa1 rr.store.length sc1) ∧ x.cell? ⟨D, 1, none⟩ = some (.slice ra1 rr.refs.length rc1) ∧ x.cell? ⟨D, 2, none⟩ = some (.int .i64 rr.gen) ∧ x.cell? ⟨D, 3, none⟩ = some (.int .i64 rr.phase) ∧ x.cell? ⟨D, 4, none⟩ = some (.slice oa1 rr.pend.objects.length oc1) ∧ x.cell? ⟨D, 5, none⟩ = some (.slice ua1 rr.pend.updates.length uc1) ∧ x.cell? ⟨D, 6, none⟩ = some (.bool rr.pend.force) from ⟨below_cell (hT.below _ hx) (block_cell (j := 0) hb7 rfl), below_cell (hT.below _ hx) (block_cell (j := 1) hb7 rfl), below_cell (hT.below _ hx) (block_cell (j := 2) hb7 rfl), below_cell (hT.below _ hx) (block_cell (j := 3) hb7 rfl), below_cell (hT.below _ hx) (block_cell (j := 4) hb7 rfl), below_cell (hT.below _ hx) (block_cell (j := 5) hb7 rfl), below_cell (hT.below _ hx) (block_cell (j := 6) hb7 rfl)⟩)
      have hM8 := fun x (hx : In T x) => HM0.out x (hTQ x hx)
      refine wp_region_held (S := (fun x : World => x.cell? ⟨M, 0, none⟩ = some (.slice (some ⟨g, 0, none⟩) n c) ∧ x.cell? ⟨D, 0, none⟩ = some (.slice sa1 rr.store.length sc1) ∧ x.cell? ⟨D, 1, none⟩ = some (.slice ra1 rr.refs.length rc1) ∧ x.cell? ⟨D, 2, none⟩ = some (.int .i64 rr.gen) ∧ x.cell? ⟨D, 3, none⟩ = some (.int .i64 rr.phase) ∧ x.cell? ⟨D, 4, none⟩ = some (.slice oa1 rr.pend.objects.length oc1) ∧ x.cell? ⟨D, 5, none⟩ = some (.slice ua1 rr.pend.updates.length uc1) ∧ x.cell? ⟨D, 6, none⟩ = some (.bool rr.pend.force))) (by kernel_rfl) ?_
      change wpAnyH _ _ _ _ _ _ _ _ (World.drew _)
      have hT0 := hT.drew _ hT1
      generalize w7.drew = y0 at hT0 ⊢
      have hS8 : (fun x : World => x.cell? ⟨M, 0, none⟩ = some (.slice (some ⟨g, 0, none⟩) n c) ∧ x.cell? ⟨D, 0, none⟩ = some (.slice sa1 rr.store.length sc1) ∧ x.cell? ⟨D, 1, none⟩ = some (.slice ra1 rr.refs.length rc1) ∧ x.cell? ⟨D, 2, none⟩ = some (.int .i64 rr.gen) ∧ x.cell? ⟨D, 3, none⟩ = some (.int .i64 rr.phase) ∧ x.cell? ⟨D, 4, none⟩ = some (.slice oa1 rr.pend.objects.length oc1) ∧ x.cell? ⟨D, 5, none⟩ = some (.slice ua1 rr.pend.updates.length uc1) ∧ x.cell? ⟨D, 6, none⟩ = some (.bool rr.pend.force)) y0 := ⟨hM8 _ hT0, HVT.out _ hT0⟩
      refine wpAnyH_take (i := 0) (v := .pointer (some ⟨M, 0, none⟩)) rfl (by kernel_rfl) (by kernel_rfl) (by kernel_rfl) (fun _ _ _ h => h) (Or.inl ⟨by rfl, fun w hSw => ?_⟩) hS8 ?_
      ·go_simp
      simp only [Act.put, List.getElem_toArray, List.getElem_cons_zero, List.getElem_cons_succ, List.setIfInBounds_toArray, List.set_cons_zero, List.set_cons_succ]
      refine wpAnyH_take (i := 1) (v := .pointer (some ⟨M, 0, none⟩)) rfl (by kernel_rfl) (by kernel_rfl) (by kernel_rfl) (fun _ _ _ h => h) (Or.inl ⟨by rfl, fun w hSw => ?_⟩) hS8 ?_
      ·go_simp
      simp only [Act.put, List.getElem_toArray, List.getElem_cons_zero, List.getElem_cons_succ, List.setIfInBounds_toArray, List.set_cons_zero, List.set_cons_succ]
      refine wpAnyH_take (i := 2) (v := .pointer (some ⟨M, 0, none⟩)) rfl (by kernel_rfl) (by kernel_rfl) (by kernel_rfl) (fun _ _ _ h => h) (Or.inl ⟨by rfl, fun w hSw => ?_⟩) hS8 ?_
      ·go_simp
      simp only [Act.put, List.getElem_toArray, List.getElem_cons_zero, List.getElem_cons_succ, List.setIfInBounds_toArray, List.set_cons_zero, List.set_cons_succ]
      refine wpAnyH_take (i := 3) (v := .pointer (some ⟨M, 0, none⟩)) rfl (by kernel_rfl) (by kernel_rfl) (by kernel_rfl) (fun _ _ _ h => h) (Or.inl ⟨by rfl, fun w hSw => ?_⟩) hS8 ?_
      ·go_simp
      simp only [Act.put, List.getElem_toArray, List.getElem_cons_zero, List.getElem_cons_succ, List.setIfInBounds_toArray, List.set_cons_zero, List.set_cons_succ]
      refine wpAnyH_take (i := 4) (v := .slice (some ⟨g, 0, none⟩) n c) rfl (by kernel_rfl) (by kernel_rfl) (by kernel_rfl) (fun _ _ _ h => h) (Or.inl ⟨by rfl, fun w hSw => ?_⟩) hS8 ?_
      ·have yy := hSw.1; go_simp
      simp only [Act.put, List.getElem_toArray, List.getElem_cons_zero, List.getElem_cons_succ, List.setIfInBounds_toArray, List.set_cons_zero, List.set_cons_succ]
      refine wpAnyH_take (i := 5) (v := .int .i64 (k : Int)) rfl (by kernel_rfl) (by kernel_rfl) (by kernel_rfl) (fun _ _ _ h => h) (Or.inl ⟨by rfl, fun w hSw => ?_⟩) hS8 ?_
      ·go_simp
      simp only [Act.put, List.getElem_toArray, List.getElem_cons_zero, List.getElem_cons_succ, List.setIfInBounds_toArray, List.set_cons_zero, List.set_cons_succ]
      refine wpAnyH_take (i := 6) (v := .agg #[.slice sa1 rr.store.length sc1, .slice ra1 rr.refs.length rc1, .int .i64 rr.gen, .int .i64 rr.phase, .slice oa1 rr.pend.objects.length oc1, .slice ua1 rr.pend.updates.length uc1, .bool rr.pend.force]) rfl (by kernel_rfl) (by kernel_rfl) (by kernel_rfl) (fun _ _ _ h => h) (Or.inl ⟨by rfl, fun w hSw => ?_⟩) hS8 ?_
      ·obtain ⟨_, u0, u1, u2, u3, u4, u5, u6⟩ := hSw; go_simp
      simp only [Act.put, List.getElem_toArray, List.getElem_cons_zero, List.getElem_cons_succ, List.setIfInBounds_toArray, List.set_cons_zero, List.set_cons_succ]
      refine wpAnyH_take (i := 7) (v := .pointer (some ⟨g, k * 7, none⟩)) rfl (by kernel_rfl) (by kernel_rfl) (by kernel_rfl) (fun _ _ _ h => h) (Or.inl ⟨by rfl, fun w hSw => ?_⟩) hS8 ?_
      ·go_simp
      simp only [Act.put, List.getElem_toArray, List.getElem_cons_zero, List.getElem_cons_succ, List.setIfInBounds_toArray, List.set_cons_zero, List.set_cons_succ]
      refine wpAnyH_all (rs := [8]) (by kernel_rfl) (by simp) (fun j hj => ?_)
      obtain rfl : j = 8 := by simpa using hj
      refine Or.inl ?_
      obtain ⟨z0, z1, z2, z3, z4, z5, z6⟩ := HKc.out _ (hTQ _ hT0)
      have hOy := HO.out.below (hQb _ (hTQ _ hT0))
      have f0 := hOy.free (k * 7)
      have f1 := hOy.free (k * 7 + 1)
      have f2 := hOy.free (k * 7 + 2)
      have f3 := hOy.free (k * 7 + 3)
      have f4 := hOy.free (k * 7 + 4)
      have f5 := hOy.free (k * 7 + 5)
      have f6 := hOy.free (k * 7 + 6)
      have hset := hOy.set (i := k) (r := rr) (x := ⟨.slice sa1 rr.store.length sc1, .slice ra1 rr.refs.length rc1, .slice oa1 rr.pend.objects.length oc1, .slice ua1 rr.pend.updates.length uc1⟩) Hkl.out (S2 := fun b => wo.heap.size + 1 ≤ b ∧ b < y0.heap.size) (RepIs.weaken (RepIs.lt (Hv7.out.below (hT.below _ hT0))) fun b hb => ⟨hb.1.1, hb.2⟩) (fun b hb => ⟨hb.2, fun e => by have := HSw.out; omega⟩)
      have Hset := Lib.hid hset
      have hMy : y0.heap[M]? = some (.cells #[.slice (some ⟨g, 0, none⟩) n c, .int .i64 (mn : Int)] 90 (0, 0)) := ((hQb _ (hTQ _ hT0)).block _ (by have := HSw.out; omega)).trans HMb.out
      have HMy := Lib.hid hMy
      have hBy := HBw.out.trans ((hQb _ (hTQ _ hT0)).mono (by have := HSw.out; omega))
      have HBy := Lib.hid hBy
      have hys := (hQb _ (hTQ _ hT0)).size
      have HS8 := Lib.hid hS8
      clear hset hOy hMy hBy hM8
      go_wp2_with fail
      first | refine ⟨by kernel_rfl, ?_⟩ | refine ⟨HS8.out, by kernel_rfl, ?_⟩
      change Exit.then _ _ _ _ (y0.setCells g (k * 7) (repC rr ⟨.slice sa1 rr.store.length sc1, .slice ra1 rr.refs.length rc1, .slice oa1 rr.pend.objects.length oc1, .slice ua1 rr.pend.updates.length uc1⟩))
      have hM9 := (Hset.out.2).blk HMy.out (fun e => hgM e.symm)
      have hB9 := HBy.out.trans (Hset.out.2.below (B := B) (by have := HSw.out; omega) (fun b hb => by omega))
      have hO9 := Hset.out.1
      have hz9 := Hset.out.2.size
      clear Hset HMy HBy z0 z1 z2 z3 z4 z5 z6 f0 f1 f2 f3 f4 f5 f6
      generalize y0.setCells g (k * 7) (repC rr ⟨.slice sa1 rr.store.length sc1, .slice ra1 rr.refs.length rc1, .slice oa1 rr.pend.objects.length oc1, .slice ua1 rr.pend.updates.length uc1⟩) = w9 at *
      have j1 := block_cell (j := 1) hM9 rfl
      have j2 := block_free (j := 1) hM9
      have hw2 := wrap_in (n := (mn : Int) + 1) (by have := Hl.out; have := Hn.out; omega)
      have hu10 : Upd (fun b => b = M) w9 (w9.setCell ⟨M, 1, none⟩ (.int .i64 ((mn : Int) + 1))) := (Upd.refl (fun b => b = M) w9).setCell (p := ⟨M, 1, none⟩) (fun _ => rfl) _
      have hM10 : (w9.setCell ⟨M, 1, none⟩ (.int .i64 ((mn : Int) + 1))).heap[M]? = some (.cells #[.slice (some ⟨g, 0, none⟩) n c, .int .i64 ((mn + 1 : Nat) : Int)] 90 (0, 0)) := block_setCell (j := 1) hM9 (.int .i64 ((mn : Int) + 1))
      have HI2 := Lib.hid (show MendAt B g c M n (w9.setCell ⟨M, 1, none⟩ (.int .i64 ((mn : Int) + 1))) (mendTo l b (k + 1)) (mendN l b (k + 1)) ∧ Below B w (w9.setCell ⟨M, 1, none⟩ (.int .i64 ((mn : Int) + 1))) ∧ w.heap.size ≤ (w9.setCell ⟨M, 1, none⟩ (.int .i64 ((mn : Int) + 1))).heap.size from by
       rw [HnT.out, HnN.out]
       have hz := HSw.out
       have hFM : ∀ b, (F b ∨ (wo.heap.size + 1 ≤ b ∧ b < y0.heap.size)) → B ≤ b ∧ b ≠ M := fun b hb => by rcases hb with hb | hb; exact HF.out b hb; exact ⟨by omega, by omega⟩
       exact ⟨⟨_, hO9.upd hu10 (fun b hb e => (hFM b hb).2 e) (fun q hq e => by subst e; cases hq; exact hgM rfl), hFM, hM10⟩, hB9.trans (hu10.below (B := B) (by omega) (fun b hb => by omega)), by have := hu10.size; omega⟩)
      clear hO9 hM9 hB9 hM10 hu10 HO HF HMb HR HI HVT HKc
      go_wp2_with fail
      go_roundw
      case rel => exact ⟨k + 1, by omega, by go_num, Hs2.out, HI2.out⟩
      case measure => simp [intOf]; omega
def allE (l : List Rep) : Int := if cluE l ≠ 0 then cluE l else scan (mendErr l (best l)) l.length
def allL (l : List Rep) : List Rep := if allE l = 0 then mendTo l (best l) l.length else []
def allN (l : List Rep) : Nat := if allE l = 0 then mendN l (best l) l.length else 0
set_option maxRecDepth 100000 in
set_option maxHeartbeats 4000000 in
theorem repairAll_any (l : List Rep) (v : Value) (S : Nat → Prop) (w : World) (h : RepsV S w v l) :
  Calls Tryz.prog 21 #[.agg #[v]] w fun e w' => ∃ v', e = .returned (.tuple #[.agg #[v'], .int .i64 (allN l), .int .i64 (allE l)]) ∧ OwnF w.heap.size w' v' (allL l) ∧ Below w.heap.size w w' := by
 have HE := Lib.hid (show allE l = if cluE l ≠ 0 then cluE l else scan (mendErr l (best l)) l.length from rfl)
 have HL := Lib.hid (show allL l = if allE l = 0 then mendTo l (best l) l.length else [] from rfl)
 have HN := Lib.hid (show allN l = if allE l = 0 then mendN l (best l) l.length else 0 from rfl)
 have Hnw := Lib.hid (show newN l = if cluE l = 0 then (best l : Int) else 0 from rfl)
 have H := Lib.hid h
 obtain ⟨a, cap, rfl⟩ := h.vshape
 clear h
 obtain ⟨R, hR, hR1, HB0⟩ := cls_allocs w [.cells #[.slice a l.length cap] 24, .cells #[.slice none 0 0] 24]
 simp only [List.foldl] at hR1
 have hRb := hR.below
 have hRn := hR.next
 have c0 := fun x (hx : In R x) => block_cell (j := 0) (HB0 x hx 0 _ rfl) rfl
 simp only [Nat.add_zero] at c0
 have HZ := Lib.hid (fun x (hx : In R x) => HB0 x hx 1 _ rfl)
 have HSz := Lib.hid (fun x (hx : In R x) => show w.heap.size + 2 ≤ x.heap.size from lt_of_block (HB0 x hx 1 _ rfl))
 clear HB0
 have HNe := Lib.hid (fun x (hx : In R x) => newest_any l _ _ x (H.out.below (hRb _ hx)))
 have HOw := Lib.hid (fun x (hx : In R x) => cluOwn_any l _ _ x (H.out.below (hRb _ hx)))
 have cc := c0 _ hR1
 have Hzero := Lib.hid (fun (h : cluE l = 0) => cluE_zero h)
 by_cases hz : cluE l = 0
 case neg =>
  have HE2 := Lib.hid (show allE l = cluE l by rw [HE.out, if_pos hz])
  have HL2 := Lib.hid (show allL l = [] by rw [HL.out, HE2.out, if_neg hz])
  have HN2 := Lib.hid (show allN l = 0 by rw [HN.out, HE2.out, if_neg hz])
  rw [Hnw.out, if_neg hz] at HNe
  have hq : (cluE l == 0) = false := by simpa using hz
  have hq2 : (cluE l != 0) = true := by simpa using hz
  clear hz HE HL HN Hnw Hzero
  generalize cluE l = ce at *
  go_enter Tryz.func21, Tryz.ntmps21
  go_wp2_with fail
  refine (HNe.out _ hR1).mono ?_
  rintro e w1 ⟨rfl, hb1⟩
  have hR2 := hRn _ _ hR1 hb1
  have c1 := c0 _ hR2
  clear cc
  go_wp2_with fail
  refine (HOw.out _ hR2).mono ?_
  rintro e w2 ⟨v2, rfl, ⟨F, hO, hF⟩, hb2⟩
  obtain ⟨a2, c2, rfl⟩ := hO.shape
  have hR3 := hRn _ _ hR2 hb2
  have hsz2 := HSz.out _ hR2
  have hle2 := hb2.size
  have hR4 := hR.alloc _ (.cells #[.slice a2 l.length c2, .int .i64 0] 90) hR3
  have hM4 : (w2.alloc (.cells #[.slice a2 l.length c2, .int .i64 0] 90)).heap[w2.heap.size]? = some (.cells #[.slice a2 l.length c2, .int .i64 0] 90 (0, 0)) := heap_alloc_new w2 _
  have hs4 : (w2.alloc (.cells #[.slice a2 l.length c2, .int .i64 0] 90)).heap.size = w2.heap.size + 1 := by simp
  have hO4 := hO.below ((Below.refl w2.heap.size w2).alloc (Nat.le_refl _) (.cells #[.slice a2 l.length c2, .int .i64 0] 90))
  have HO := Lib.hid hO
  clear hb1 hb2 hO c1
  clear hO4 hM4 hs4
  obtain ⟨w4, hw4⟩ : ∃ w4, w4 = w2.alloc (.cells #[.slice a2 l.length c2, .int .i64 0] 90) := ⟨_, rfl⟩
  rw [← hw4] at hR4
  have Hw4 := Lib.hid hw4
  have hZ := HZ.out _ hR4
  have gz := block_cell (j := 0) hZ rfl
  have fz := block_free (j := 0) hZ
  rw [hw4] at gz fz
  clear hw4
  go_wp2_with fail
  rw [← Hw4.out]
  have hu5 : Upd (fun b => b = w.heap.size + 1) w4 (w4.setCell ⟨w.heap.size + 1, 0, none⟩ (.slice none 0 0)) := (Upd.refl (fun b => b = w.heap.size + 1) w4).setCell (p := ⟨w.heap.size + 1, 0, none⟩) (fun _ => rfl) _
  have hk5 : (w4.setCell ⟨w.heap.size + 1, 0, none⟩ (.slice none 0 0)).heap[w.heap.size + 1]? = some (.cells #[.slice none 0 0] 24 (0, 0)) := block_setCell (j := 0) hZ (.slice none 0 0)
  have hB5 := (hRb _ hR4).trans (hu5.below (B := w.heap.size) (hRb _ hR4).size (fun b hb => by omega))
  generalize w4.setCell ⟨w.heap.size + 1, 0, none⟩ (.slice none 0 0) = x5 at *
  have k0 := block_cell (j := 0) hk5 rfl
  refine bodyPost_ret (v := .tuple #[.agg #[.slice none 0 0], .int .i64 0, .int .i64 ce]) (by simp [results, Tryz.results21, go_sem]; simp [k0] <;> rfl) rfl ?_
  refine ⟨_, by rw [HN2.out, HE2.out]; rfl, by rw [HL2.out]; exact ⟨fun _ => False, OwnC.nil _ _ _ (fun _ h => h.elim), fun _ h => h.elim⟩, hB5⟩
 case pos =>
  have hz3 := Hzero.out hz
  have hbl := best_lt (l := l) (by omega)
  rw [if_neg (by simpa using hz)] at HE
  rw [Hnw.out, if_pos hz, hz] at HNe
  have Hz3 := Lib.hid hz3
  clear hz Hnw Hzero hz3
  go_enter Tryz.func21, Tryz.ntmps21
  go_wp2_with fail
  refine (HNe.out _ hR1).mono ?_
  rintro e w1 ⟨rfl, hb1⟩
  have hR2 := hRn _ _ hR1 hb1
  have c1 := c0 _ hR2
  clear cc
  go_wp2_with fail
  refine (HOw.out _ hR2).mono ?_
  rintro e w2 ⟨v2, rfl, ⟨F, hO, hF⟩, hb2⟩
  obtain ⟨a2, c2, rfl⟩ := hO.shape
  have hR3 := hRn _ _ hR2 hb2
  have hsz2 := HSz.out _ hR2
  have hle2 := hb2.size
  have hR4 := hR.alloc _ (.cells #[.slice a2 l.length c2, .int .i64 0] 90) hR3
  have hM4 : (w2.alloc (.cells #[.slice a2 l.length c2, .int .i64 0] 90)).heap[w2.heap.size]? = some (.cells #[.slice a2 l.length c2, .int .i64 0] 90 (0, 0)) := heap_alloc_new w2 _
  have hs4 : (w2.alloc (.cells #[.slice a2 l.length c2, .int .i64 0] 90)).heap.size = w2.heap.size + 1 := by simp
  have hO4 := hO.below ((Below.refl w2.heap.size w2).alloc (Nat.le_refl _) (.cells #[.slice a2 l.length c2, .int .i64 0] 90))
  have HO := Lib.hid hO
  clear hb1 hb2 hO c1
  obtain ⟨g, rfl⟩ : ∃ g, a2 = some ⟨g, 0, none⟩ := by
   obtain ⟨_, _, ⟨_, h2⟩, _⟩ := HO.out
   rcases h2 with ⟨e, h0⟩ | ⟨g, cp, cur, e, _⟩
   ·exfalso; omega
   ·cases e; exact ⟨g, rfl⟩
  have hgl : g < w2.heap.size := (HO.out.block rfl).2
  have hMA : MendAt w1.heap.size g c2 w2.heap.size l.length (w2.alloc (.cells #[.slice (some ⟨g, 0, none⟩) l.length c2, .int .i64 0] 90)) l 0 := ⟨F, hO4, fun b hb => ⟨hF b hb, fun e => by have := HO.out.lt hb; omega⟩, hM4⟩
  have Hmend := Lib.hid (mend_any l (best l) hbl g c2 w2.heap.size w1.heap.size _ hMA (by omega) hle2 (by have := Hz3.out.1; omega) (fun i hi => repCheck_store (Hz3.out.2.1 i (by have := Hz3.out.1; omega))))
  clear hMA hO4 hM4
  go_wp2_with fail
  refine Hmend.out.mono ?_
  rintro e w5 ⟨rfl, hb5, hM5⟩
  have hbb : Below (w.heap.size + 2) w2 w5 := by
   have h1 : Below (w.heap.size + 2) w2 (w2.alloc (.cells #[.slice (some ⟨g, 0, none⟩) l.length c2, .int .i64 0] 90)) := (Below.refl _ _).alloc (by omega) _
   exact h1.trans (hb5.mono hsz2)
  have hZ : w5.heap[w.heap.size + 1]? = some (.cells #[.slice none 0 0] 24 (0, 0)) := (hbb.block _ (by omega)).trans (HZ.out _ hR3)
  have hB0 : Below w.heap.size w w5 := (hRb _ hR3).trans (hbb.mono (by omega))
  have HB0 := Lib.hid hB0
  clear hb5 hbb hB0 Hmend hR4 hs4
  by_cases he : scan (mendErr l (best l)) l.length = 0
  case neg =>
   have HE2 := HE
   have HL2 := Lib.hid (show allL l = [] by rw [HL.out, HE2.out, if_neg he])
   have HN2 := Lib.hid (show allN l = 0 by rw [HN.out, HE2.out, if_neg he])
   have hq2 : (scan (mendErr l (best l)) l.length != 0) = true := by simpa using he
   clear he HE HL HN hM5
   generalize scan (mendErr l (best l)) l.length = se at *
   have gz := block_cell (j := 0) hZ rfl
   have fz := block_free (j := 0) hZ
   go_wp2_with fail
   have hu5 : Upd (fun b => b = w.heap.size + 1) w5 (w5.setCell ⟨w.heap.size + 1, 0, none⟩ (.slice none 0 0)) := (Upd.refl (fun b => b = w.heap.size + 1) w5).setCell (p := ⟨w.heap.size + 1, 0, none⟩) (fun _ => rfl) _
   have hk5 : (w5.setCell ⟨w.heap.size + 1, 0, none⟩ (.slice none 0 0)).heap[w.heap.size + 1]? = some (.cells #[.slice none 0 0] 24 (0, 0)) := block_setCell (j := 0) hZ (.slice none 0 0)
   have hB5 := HB0.out.trans (hu5.below (B := w.heap.size) HB0.out.size (fun b hb => by omega))
   generalize w5.setCell ⟨w.heap.size + 1, 0, none⟩ (.slice none 0 0) = x5 at *
   have k0 := block_cell (j := 0) hk5 rfl
   refine bodyPost_ret (v := .tuple #[.agg #[.slice none 0 0], .int .i64 0, .int .i64 se]) (by simp [results, Tryz.results21, go_sem]; simp [k0] <;> rfl) rfl ?_
   refine ⟨_, by rw [HN2.out, HE2.out]; rfl, by rw [HL2.out]; exact ⟨fun _ => False, OwnC.nil _ _ _ (fun _ h => h.elim), fun _ h => h.elim⟩, hB5⟩
  case pos =>
   have HE2 := Lib.hid (show allE l = 0 by rw [HE.out, he])
   have HL2 := Lib.hid (show allL l = mendTo l (best l) l.length by rw [HL.out, if_pos HE2.out])
   have HN2 := Lib.hid (show allN l = mendN l (best l) l.length by rw [HN.out, if_pos HE2.out])
   obtain ⟨F5, hO5, hF5, hM5⟩ := hM5 he
   rw [he]
   clear he HE HL HN
   rw [← HL2.out] at hO5
   rw [← HN2.out] at hM5
   generalize hna : allN l = an at hM5
   have Hna := Lib.hid hna
   clear hna
   have HO5 := Lib.hid hO5
   have HF5 := Lib.hid hF5
   clear hO5 hF5
   go_wp2_with fail
   refine wp_region_held (S := (fun x : World => x.cell? ⟨w2.heap.size, 0, none⟩ = some (.slice (some ⟨g, 0, none⟩) l.length c2) ∧ x.cell? ⟨w2.heap.size, 1, none⟩ = some (.int .i64 (an : Int)))) (by kernel_rfl) ?_
   change wpAnyH _ _ _ _ _ _ _ _ (World.drew _)
   have hS8 : (fun x : World => x.cell? ⟨w2.heap.size, 0, none⟩ = some (.slice (some ⟨g, 0, none⟩) l.length c2) ∧ x.cell? ⟨w2.heap.size, 1, none⟩ = some (.int .i64 (an : Int))) w5.drew := ⟨block_cell (j := 0) hM5 rfl, block_cell (j := 1) hM5 rfl⟩
   have hM6 : w5.drew.heap[w2.heap.size]? = some (.cells #[.slice (some ⟨g, 0, none⟩) l.length c2, .int .i64 (an : Int)] 90 (0, 0)) := hM5
   have hZ6 : w5.drew.heap[w.heap.size + 1]? = some (.cells #[.slice none 0 0] 24 (0, 0)) := hZ
   have HO6 := Lib.hid (HO5.out.below (Below.refl _ _).drew)
   have HB6 := Lib.hid (HB0.out.trans (Below.refl _ _).drew)
   clear hM5 hZ HB0 HO5
   generalize w5.drew = y0 at *
   refine wpAnyH_take (i := 0) (v := .pointer (some ⟨w2.heap.size, 0, none⟩)) rfl (by kernel_rfl) (by kernel_rfl) (by kernel_rfl) (fun _ _ _ h => h) (Or.inl ⟨by rfl, fun w hSw => ?_⟩) hS8 ?_
   ·go_simp
   simp only [Act.put, List.getElem_toArray, List.getElem_cons_zero, List.getElem_cons_succ, List.setIfInBounds_toArray, List.set_cons_zero, List.set_cons_succ]
   refine wpAnyH_take (i := 1) (v := .pointer (some ⟨w2.heap.size, 0, none⟩)) rfl (by kernel_rfl) (by kernel_rfl) (by kernel_rfl) (fun _ _ _ h => h) (Or.inl ⟨by rfl, fun w hSw => ?_⟩) hS8 ?_
   ·go_simp
   simp only [Act.put, List.getElem_toArray, List.getElem_cons_zero, List.getElem_cons_succ, List.setIfInBounds_toArray, List.set_cons_zero, List.set_cons_succ]
   refine wpAnyH_take (i := 2) (v := .pointer (some ⟨w2.heap.size, 0, none⟩)) rfl (by kernel_rfl) (by kernel_rfl) (by kernel_rfl) (fun _ _ _ h => h) (Or.inl ⟨by rfl, fun w hSw => ?_⟩) hS8 ?_
   ·go_simp
   simp only [Act.put, List.getElem_toArray, List.getElem_cons_zero, List.getElem_cons_succ, List.setIfInBounds_toArray, List.set_cons_zero, List.set_cons_succ]
   refine wpAnyH_take (i := 3) (v := .agg #[.slice (some ⟨g, 0, none⟩) l.length c2]) rfl (by kernel_rfl) (by kernel_rfl) (by kernel_rfl) (fun _ _ _ h => h) (Or.inl ⟨by rfl, fun w hSw => ?_⟩) hS8 ?_
   ·have yy := hSw.1; go_simp
   simp only [Act.put, List.getElem_toArray, List.getElem_cons_zero, List.getElem_cons_succ, List.setIfInBounds_toArray, List.set_cons_zero, List.set_cons_succ]
   refine wpAnyH_take (i := 4) (v := .pointer (some ⟨w2.heap.size, 0, none⟩)) rfl (by kernel_rfl) (by kernel_rfl) (by kernel_rfl) (fun _ _ _ h => h) (Or.inl ⟨by rfl, fun w hSw => ?_⟩) hS8 ?_
   ·go_simp
   simp only [Act.put, List.getElem_toArray, List.getElem_cons_zero, List.getElem_cons_succ, List.setIfInBounds_toArray, List.set_cons_zero, List.set_cons_succ]
   refine wpAnyH_take (i := 5) (v := .pointer (some ⟨w2.heap.size, 0, none⟩)) rfl (by kernel_rfl) (by kernel_rfl) (by kernel_rfl) (fun _ _ _ h => h) (Or.inl ⟨by rfl, fun w hSw => ?_⟩) hS8 ?_
   ·go_simp
   simp only [Act.put, List.getElem_toArray, List.getElem_cons_zero, List.getElem_cons_succ, List.setIfInBounds_toArray, List.set_cons_zero, List.set_cons_succ]
   refine wpAnyH_take (i := 6) (v := .pointer (some ⟨w2.heap.size, 1, none⟩)) rfl (by kernel_rfl) (by kernel_rfl) (by kernel_rfl) (fun _ _ _ h => h) (Or.inl ⟨by rfl, fun w hSw => ?_⟩) hS8 ?_
   ·go_simp
   simp only [Act.put, List.getElem_toArray, List.getElem_cons_zero, List.getElem_cons_succ, List.setIfInBounds_toArray, List.set_cons_zero, List.set_cons_succ]
   refine wpAnyH_take (i := 7) (v := .int .i64 (an : Int)) rfl (by kernel_rfl) (by kernel_rfl) (by kernel_rfl) (fun _ _ _ h => h) (Or.inl ⟨by rfl, fun w hSw => ?_⟩) hS8 ?_
   ·have yy := hSw.2; go_simp
   simp only [Act.put, List.getElem_toArray, List.getElem_cons_zero, List.getElem_cons_succ, List.setIfInBounds_toArray, List.set_cons_zero, List.set_cons_succ]
   refine wpAnyH_all (rs := [8]) (by kernel_rfl) (by simp) (fun j hj => ?_)
   obtain rfl : j = 8 := by simpa using hj
   refine Or.inl ?_
   have gz := block_cell (j := 0) hZ6 rfl
   have fz := block_free (j := 0) hZ6
   have hu7 : Upd (fun b => b = w.heap.size + 1) y0 (y0.setCell ⟨w.heap.size + 1, 0, none⟩ (.slice (some ⟨g, 0, none⟩) l.length c2)) := (Upd.refl (fun b => b = w.heap.size + 1) y0).setCell (p := ⟨w.heap.size + 1, 0, none⟩) (fun _ => rfl) _
   have hk7 : (y0.setCell ⟨w.heap.size + 1, 0, none⟩ (.slice (some ⟨g, 0, none⟩) l.length c2)).heap[w.heap.size + 1]? = some (.cells #[.slice (some ⟨g, 0, none⟩) l.length c2] 24 (0, 0)) := block_setCell (j := 0) hZ6 (.slice (some ⟨g, 0, none⟩) l.length c2)
   have HS9 := Lib.hid (show (fun x : World => x.cell? ⟨w2.heap.size, 0, none⟩ = some (.slice (some ⟨g, 0, none⟩) l.length c2) ∧ x.cell? ⟨w2.heap.size, 1, none⟩ = some (.int .i64 (an : Int))) (y0.setCell ⟨w.heap.size + 1, 0, none⟩ (.slice (some ⟨g, 0, none⟩) l.length c2)) from ⟨hu7.cell hS8.1 (by show ¬ (w2.heap.size = w.heap.size + 1); omega), hu7.cell hS8.2 (by show ¬ (w2.heap.size = w.heap.size + 1); omega)⟩)
   have Hk7 := Lib.hid hk7
   have HB7 := Lib.hid (HB6.out.trans (hu7.below (B := w.heap.size) HB6.out.size (fun b hb => by omega)))
   have HO7 := Lib.hid (HO6.out.upd hu7 (fun b hb e => by have := (HF5.out b hb).1; omega) (fun q hq e => by have := (HO6.out.block hq).1; omega))
   clear hu7 hk7
   go_wp2_with fail
   first | refine ⟨HS9.out, ?_⟩ | refine ⟨hS8, ?_⟩ | skip
   change wpAnyH _ _ _ _ _ _ _ _ (y0.setCell ⟨w.heap.size + 1, 0, none⟩ (.slice (some ⟨g, 0, none⟩) l.length c2))
   have hS9 := HS9.out
   have hk7 := Hk7.out
   clear HS9 Hk7 gz fz hS8 hM6 hZ6 HO6 HB6
   generalize y0.setCell ⟨w.heap.size + 1, 0, none⟩ (.slice (some ⟨g, 0, none⟩) l.length c2) = y1 at *
   refine wpAnyH_all (rs := [9]) (by kernel_rfl) (by simp) (fun j hj => ?_)
   obtain rfl : j = 9 := by simpa using hj
   refine Or.inl ?_
   go_simp
   first | refine ⟨hS9, ?_⟩ | skip
   refine wpAnyH_all (rs := [10]) (by kernel_rfl) (by simp) (fun j hj => ?_)
   obtain rfl : j = 10 := by simpa using hj
   refine Or.inl ?_
   go_simp
   first | refine ⟨hS9, ?_⟩ | skip
   refine wpAnyH_done (by kernel_rfl) ?_ _
   go_wp2_with fail
   have k0 := block_cell (j := 0) hk7 rfl
   refine bodyPost_ret (v := .tuple #[.agg #[.slice (some ⟨g, 0, none⟩) l.length c2], .int .i64 (an : Int), .int .i64 0]) (by simp [results, Tryz.results21, go_sem]; simp [k0] <;> rfl) rfl ?_
   refine ⟨_, by rw [HE2.out, Hna.out], ⟨F5, HO7.out.weaken (fun _ h => h) (fun b hb => ⟨HO7.out.lt hb, HO7.out.own hb⟩) (by omega), fun b hb => by have := (HF5.out b hb).1; omega⟩, HB7.out⟩
end Go.Proofs.YtgkbalhkjolnmaaGreatDoor
namespace Go.Proofs.YtgkbalhkjolnmaaGreatDoor
set_option linter.unusedVariables false
set_option linter.unusedSimpArgs false
theorem rising_pairwise {l : List Obj} (h : l.Pairwise (fun x y => x.id < y.id)) : Rising l := by
 intro i j hij hj
 rw [List.pairwise_iff_getElem] at h
 have := h i j (by omega) hj hij
 rwa [obj_lt (by omega), obj_lt hj]
section
variable {l : List Obj} {tips : List Int}
theorem mem_part {x : Obj} : x ∈ partOf l tips ↔ ∃ i, i < l.length ∧ reachB l false tips i = true ∧ obj l i = x := by
 unfold partOf
 rw [List.mem_map]
 constructor
 ·rintro ⟨i, hi, rfl⟩
  rw [List.mem_filter] at hi
  exact ⟨i, List.mem_range.1 hi.1, hi.2, rfl⟩
 ·rintro ⟨i, hi, hr, rfl⟩
  exact ⟨i, List.mem_filter.2 ⟨List.mem_range.2 hi, hr⟩, rfl⟩
theorem part_rising (h : Rising l) : Rising (partOf l tips) := by
 refine rising_pairwise ?_
 unfold partOf
 rw [List.pairwise_map]
 refine List.Pairwise.imp_of_mem ?_ ((List.pairwise_lt_range (n := l.length)).filter _)
 intro i j hi hj hij
 exact h i j hij (List.mem_range.1 (List.mem_filter.1 hj).1)
theorem link_edge {i j k : Nat} (hk : k < (obj l i).links.length) (hj : j < l.length) (e : (obj l j).id = nth (obj l i).links k) : edgeB l false i j = true := by
 simp only [edgeB, Bool.and_eq_true, decide_eq_true_eq, List.any_eq_true, beq_iff_eq]
 exact ⟨hj, nth (obj l i).links k, at_mem hk, e.symm⟩
theorem there_of {p : List Obj} (h : checkStore p = 0) {ids : List Int} (hk : ∀ t ∈ ids, kindOf p t ≠ 0) : thereErr p ids = 0 := by
 unfold thereErr
 rw [if_neg (by simpa using h), if_neg]
 rw [List.any_eq_true]
 rintro ⟨t, ht, e⟩
 exact hk t ht (by simpa using e)
end
end Go.Proofs.YtgkbalhkjolnmaaGreatDoor
