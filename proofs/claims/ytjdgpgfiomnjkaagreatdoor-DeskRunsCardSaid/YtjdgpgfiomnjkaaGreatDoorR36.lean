/- DeskM: walk of the reference's RunOf. -/
import Derived.Test.YtjdgpgfiomnjkaaGreatDoorR32
import Derived.Test.YtjdgpgfiomnjkaaGreatDoorR35
set_option linter.all false
set_option maxHeartbeats 32000000
set_option maxRecDepth 100000
namespace Go.Proofs.YtjdgpgfiomnjkaaGreatDoor
open Go.RowKit
theorem XI (w : World) : AE (fun b => b = w.heap.size) (w.alloc (.cells #[.slice none 0 0, .slice none 0 0, .int .i64 0, .int .i64 0, .slice none 0 0, .slice none 0 0, .bool false, .slice none 0 0, .slice none 0 0, .int .i64 0, .int .i64 0, .slice none 0 0, .slice none 0 0, .bool false, .slice none 0 0, .slice none 0 0, .int .i64 0, .int .i64 0, .slice none 0 0, .slice none 0 0, .bool false] 28)) (.slice (some ⟨w.heap.size, 0, none⟩) 3 3) Pe := by
 have HZ := heap_alloc_new w (.cells #[.slice none 0 0, .slice none 0 0, .int .i64 0, .int .i64 0, .slice none 0 0, .slice none 0 0, .bool false, .slice none 0 0, .slice none 0 0, .int .i64 0, .int .i64 0, .slice none 0 0, .slice none 0 0, .bool false, .slice none 0 0, .slice none 0 0, .int .i64 0, .int .i64 0, .slice none 0 0, .slice none 0 0, .bool false] 28)
 have hz : ∀ i, i < 3 → Ai Pe i = Ds := fun i hi => by
  have : i = 0 ∨ i = 1 ∨ i = 2 := by omega
  rcases this with rfl | rfl | rfl <;> rfl
 refine ⟨fun _ => ⟨.slice none 0 0, .slice none 0 0, .slice none 0 0, .slice none 0 0⟩, ⟨_, 3, rfl, by decide, by decide, by decide, fun _ => ⟨_, 0, rfl, rfl, fun i hi j u hu => ?_⟩⟩, fun i hi => ?_⟩
 ·replace hu : (Bv (Ai Pe i) ⟨.slice none 0 0, .slice none 0 0, .slice none 0 0, .slice none 0 0⟩)[j]? = some u := hu
  rw [hz i hi] at hu
  have hj : j < 7 := by
   rcases Nat.lt_or_ge j 7 with h | h
   ·exact h
   ·rw [List.getElem?_eq_none (by simpa [Bv] using h)] at hu; cases hu
  have h1 : i = 0 ∨ i = 1 ∨ i = 2 := by have : i < 3 := hi; omega
  have h2 : j = 0 ∨ j = 1 ∨ j = 2 ∨ j = 3 ∨ j = 4 ∨ j = 5 ∨ j = 6 := by omega
  rcases h1 with rfl | rfl | rfl <;> rcases h2 with rfl | rfl | rfl | rfl | rfl | rfl | rfl <;> (cases hu; exact Aa HZ rfl)
 ·rw [hz i hi]; exact Eb _ _
structure Yu (B : Nat) (w : World) (s : List Ac) (v tv dv : Value) : Prop where
 clu : AE (fun _ => True) w v (Nx s)
 told : w.ownsRow B 4 1 tv (Kf s) ((Ft s (Kf s)).map .bool)
 done : w.ownsRow B 33 1 dv (Kf s) ((EH s (Kf s)).map (.int .i64))
theorem UD (s : List Ac) (sv : Value) (S : Nat → Prop) (w : World) (h : FC S w sv s) :
  Calls Tryz.prog 45 #[sv] w fun e w' => ∃ v tv dv, e = .returned (.tuple #[.agg #[v], tv, dv, .int .i64 (OZ s)]) ∧ Yu w.heap.size w' s v tv dv ∧ Below w.heap.size w w' := by
 obtain ⟨a, n, cap, fr, HN, rfl, _, _, h3, h4, h5⟩ := h.open
 have H4 := zh h4
 have H5 := zh (fun i (hi : i < n) => (show EE (fun b => b < w.heap.size) w (ac s i) _ _ from ⟨(h5 i hi).objs.lt.weaken fun b hb => hb.2, (h5 i hi).upds.lt.weaken fun b hb => hb.2, (h5 i hi).kind, (h5 i hi).on, (h5 i hi).up, (h5 i hi).late⟩))
 clear h h4 h5
 obtain ⟨R, hR, hR1, HB0⟩ := AL w [.cells #[.slice none 0 0] 66]
 simp only [List.foldl] at hR1
 have hRb := hR.below
 have hRn := hR.next
 have HZ := zh (fun x (hx : In R x) => show x.heap[w.heap.size]? = some (.cells #[.slice none 0 0] 66 (0, 0)) from HB0 x hx 0 _ rfl)
 clear HB0
 have HN2 := zh (show Kf s = if n ≤ 12 then n else 0 by rw [HN.out]; rfl)
 have HC2 := zh (show Nx s = if n ≤ 12 then CV s n else [] by rw [HN.out]; rfl)
 have HW2 := zh (show OZ s = if n ≤ 12 then 0 else 2 by rw [HN.out]; rfl)
 have hsz5 : (w.alloc (.cells #[.slice none 0 0] 66)).heap.size = w.heap.size + 1 := by simp
 have hmk : ∀ w, (Instr.makeSlice 64 (.int .i64 3) (.int .i64 3)).run Tryz.prog w = .ok (.slice (some ⟨w.heap.size, 0, none⟩) 3 3) (w.alloc (.cells #[.slice none 0 0, .slice none 0 0, .int .i64 0, .int .i64 0, .slice none 0 0, .slice none 0 0, .bool false, .slice none 0 0, .slice none 0 0, .int .i64 0, .int .i64 0, .slice none 0 0, .slice none 0 0, .bool false, .slice none 0 0, .slice none 0 0, .int .i64 0, .int .i64 0, .slice none 0 0, .slice none 0 0, .bool false] 28)) := fun _ => by kernel_rfl
 by_cases hn : n ≤ 12
 case neg =>
  rw [if_neg hn] at HN2 HC2 HW2
  have q1 : (12 : Int) < (n : Int) := by omega
  have HZW := zh (HZ.out _ hR1)
  have HBW := zh (hRb _ hR1)
  have gz := Aa (j := 0) HZW.out rfl
  have fz := Ab (j := 0) HZW.out
  go_enter Tryz.func45, Tryz.ntmps45
  go_wp2_with fail
  refine bodyPost_ret (v := .tuple #[.agg #[.slice none 0 0], .slice none 0 0, .slice none 0 0, .int .i64 2]) (by simp [results, Tryz.results45, go_sem] <;> rfl) rfl ?_
  refine ⟨_, _, _, by rw [HW2.out], ⟨by rw [HC2.out]; exact AE.nil _ _ _ _ (by omega), by rw [HN2.out]; exact World.ownsRow_nil _ _ _ _, by rw [HN2.out]; exact World.ownsRow_nil _ _ _ _⟩, HBW.out⟩
 rw [if_pos hn] at HN2 HC2 HW2
 have q1 : ¬ (12 : Int) < (n : Int) := by omega
 obtain ⟨x5, hx5⟩ : ∃ x5, x5 = (w.alloc (.cells #[.slice none 0 0] 66)) := ⟨_, rfl⟩
 rw [← hx5] at hR1 hsz5
 have Hx5 := zh hx5
 clear hx5
 obtain ⟨Q, hQ, hQ1, hQu⟩ := Ej x5
 have hQb := hQ.below
 have hQn := hQ.next
 have HQu := zh hQu
 clear hQu
 have HQR := zh (fun x (hx : In Q x) => hRn _ _ hR1 (hQb _ hx))
 have Hs5 := zh hsz5
 clear hsz5
 have hQ8 := hQ.alloc _ (.cells #[.slice none 0 0, .slice none 0 0, .int .i64 0, .int .i64 0, .slice none 0 0, .slice none 0 0, .bool false, .slice none 0 0, .slice none 0 0, .int .i64 0, .int .i64 0, .slice none 0 0, .slice none 0 0, .bool false, .slice none 0 0, .slice none 0 0, .int .i64 0, .int .i64 0, .slice none 0 0, .slice none 0 0, .bool false] 28) hQ1
 have hQ9 := hQ.alloc _ (.cells #[.slice (some ⟨x5.heap.size, 0, none⟩) 3 3] 66) hQ8
 have hz1 : (x5.alloc (.cells #[.slice none 0 0, .slice none 0 0, .int .i64 0, .int .i64 0, .slice none 0 0, .slice none 0 0, .bool false, .slice none 0 0, .slice none 0 0, .int .i64 0, .int .i64 0, .slice none 0 0, .slice none 0 0, .bool false, .slice none 0 0, .slice none 0 0, .int .i64 0, .int .i64 0, .slice none 0 0, .slice none 0 0, .bool false] 28)).heap.size = x5.heap.size + 1 := by simp
 have hb9 := heap_alloc_new (x5.alloc (.cells #[.slice none 0 0, .slice none 0 0, .int .i64 0, .int .i64 0, .slice none 0 0, .slice none 0 0, .bool false, .slice none 0 0, .slice none 0 0, .int .i64 0, .int .i64 0, .slice none 0 0, .slice none 0 0, .bool false, .slice none 0 0, .slice none 0 0, .int .i64 0, .int .i64 0, .slice none 0 0, .slice none 0 0, .bool false] 28)) (.cells #[.slice (some ⟨x5.heap.size, 0, none⟩) 3 3] 66)
 rw [hz1] at hb9
 have hbA : Below (x5.alloc (.cells #[.slice none 0 0, .slice none 0 0, .int .i64 0, .int .i64 0, .slice none 0 0, .slice none 0 0, .bool false, .slice none 0 0, .slice none 0 0, .int .i64 0, .int .i64 0, .slice none 0 0, .slice none 0 0, .bool false, .slice none 0 0, .slice none 0 0, .int .i64 0, .int .i64 0, .slice none 0 0, .slice none 0 0, .bool false] 28)).heap.size (x5.alloc (.cells #[.slice none 0 0, .slice none 0 0, .int .i64 0, .int .i64 0, .slice none 0 0, .slice none 0 0, .bool false, .slice none 0 0, .slice none 0 0, .int .i64 0, .int .i64 0, .slice none 0 0, .slice none 0 0, .bool false, .slice none 0 0, .slice none 0 0, .int .i64 0, .int .i64 0, .slice none 0 0, .slice none 0 0, .bool false] 28)) ((x5.alloc (.cells #[.slice none 0 0, .slice none 0 0, .int .i64 0, .int .i64 0, .slice none 0 0, .slice none 0 0, .bool false, .slice none 0 0, .slice none 0 0, .int .i64 0, .int .i64 0, .slice none 0 0, .slice none 0 0, .bool false, .slice none 0 0, .slice none 0 0, .int .i64 0, .int .i64 0, .slice none 0 0, .slice none 0 0, .bool false] 28)).alloc (.cells #[.slice (some ⟨x5.heap.size, 0, none⟩) 3 3] 66)) := bal
 have hv9 := (XI x5).below hbA
 have Hb9 := zh hb9
 have Hv9 := zh hv9
 clear hb9 hv9 hbA hz1 hQ8
 go_enter Tryz.func45, Tryz.ntmps45
 go_upto_region 3 with fail
 rw [← Hx5.out]
 obtain ⟨y9, hy9⟩ : ∃ y9, y9 = ((x5.alloc (.cells #[.slice none 0 0, .slice none 0 0, .int .i64 0, .int .i64 0, .slice none 0 0, .slice none 0 0, .bool false, .slice none 0 0, .slice none 0 0, .int .i64 0, .int .i64 0, .slice none 0 0, .slice none 0 0, .bool false, .slice none 0 0, .slice none 0 0, .int .i64 0, .int .i64 0, .slice none 0 0, .slice none 0 0, .bool false] 28)).alloc (.cells #[.slice (some ⟨x5.heap.size, 0, none⟩) 3 3] 66)) := ⟨_, rfl⟩
 have Hy9 := zh hy9
 rw [← hy9] at Hb9 Hv9 hQ9
 obtain ⟨D, hD⟩ : ∃ D, D = x5.heap.size + 1 := ⟨_, rfl⟩
 have HDz := zh hD
 rw [← hD] at Hb9
 have hD9 : x5.heap.size ≤ D := by omega
 have hD8 : x5.heap.size ≠ D := by omega
 clear hD hy9
 go_upto_region 7 with fail
 rw [← Hy9.out]
 rw [← HDz.out]
 clear Hy9 HDz hmk
 have HD9 := zh hD9
 obtain ⟨G, hG⟩ : ∃ G : Nat → Prop, G = fun b => b < w.heap.size ∨ x5.heap.size ≤ b := ⟨_, rfl⟩
 have HG := zh (fun b => show G b ↔ (b < w.heap.size ∨ x5.heap.size ≤ b) by rw [hG])
 clear hG
 have HA0 : RefAt G x5.heap.size D y9 s 0 (.slice none 0 0) (.slice none 0 0) := ⟨⟨_, Hb9.out, Hv9.out.weaken fun b hb => ⟨(HG.out b).2 (.inr (by omega)), by omega, by simp [Value.ownBlock], by simp [Value.ownBlock]⟩⟩, World.ownsRow_nil _ _ _ _, World.ownsRow_nil _ _ _ _, fun g hg => by simp [Value.ownBlock] at hg⟩
 have HA0 := zh HA0
 clear Hb9 Hv9 hD9 hD8
 go_loopw [7, 8, 9] (fun s7 s8 i wr => ∃ (k : Nat) (t9 d9 : Value), k ≤ n ∧ i = .int .i64 k ∧ t9 = s7 ∧ d9 = s8 ∧ In Q wr ∧ Hid (RefAt G x5.heap.size D wr s k t9 d9)) (fun _ _ i _ => n - (intOf i).toNat)
 case atStart => exact ⟨0, _, _, Nat.zero_le _, rfl, rfl, rfl, hQ9, HA0⟩
 obtain ⟨k, t9, d9, hk, rfl, rfl, rfl, hQr, HA⟩ := hrel
 obtain ⟨wo, rfl⟩ : ∃ wo : World, wo = wr := ⟨_, rfl⟩
 clear HA0 hQ9
 by_cases hlt : k < n
 case neg =>
  obtain rfl : k = n := by omega
  obtain ⟨v2, hbx, hrv⟩ := HA.out.box
  obtain ⟨a2, c2, rfl⟩ := hrv.vshape
  have hl3 := (Dq s k).len
  rw [hl3] at hbx hrv
  have x0 := Aa (j := 0) hbx rfl
  have HZW := zh (HZ.out _ (HQR.out _ hQr))
  have HBW := zh (hRb _ (HQR.out _ hQr))
  have gz := Aa (j := 0) HZW.out rfl
  have fz := Ab (j := 0) HZW.out
  have Hrv := zh hrv
  clear hrv hbx
  go_wp2_with fail
  have hu5 : Aq (fun b => b = w.heap.size) wo (wo.setCell ⟨w.heap.size, 0, none⟩ (.slice a2 3 c2)) := (Aq.refl (fun b => b = w.heap.size) wo).setCell (p := ⟨w.heap.size, 0, none⟩) (fun _ => rfl) _
  have hk5 : (wo.setCell ⟨w.heap.size, 0, none⟩ (.slice a2 3 c2)).heap[w.heap.size]? = some (.cells #[.slice a2 3 c2] 66 (0, 0)) := Ad (j := 0) HZW.out (.slice a2 3 c2)
  have hB5 := HBW.out.trans (hu5.below (B := w.heap.size) HBW.out.size (fun b hb => by have e2 : b = w.heap.size := hb; omega))
  generalize wo.setCell ⟨w.heap.size, 0, none⟩ (.slice a2 3 c2) = y5 at *
  have k0 := Aa (j := 0) hk5 rfl
  refine bodyPost_ret (v := .tuple #[.agg #[.slice a2 3 c2], t9, d9, .int .i64 0]) (by simp [results, Tryz.results45, go_sem]; simp [k0] <;> rfl) rfl ?_
  have hs5 := Hs5.out
  refine ⟨_, _, _, by rw [HW2.out], ⟨by rw [HC2.out]; exact (Hrv.out.upd hu5 (fun b hb e => by have e2 : b = w.heap.size := e; have := (HG.out b).1 hb.1; omega)).weaken (fun b hb => trivial), ?_, ?_⟩, hB5⟩
  ·rw [HN2.out]; exact Gt (CY HA.out.told hu5 (fun g hg e => by have e2 : g = w.heap.size := e; have := (HA.out.told.lt g hg).1; omega)) (by omega)
  ·rw [HN2.out]; exact Gt (CY HA.out.done hu5 (fun g hg e => by have e2 : g = w.heap.size := e; have := (HA.out.done.lt g hg).1; omega)) (by omega)
 obtain ⟨b0, off0, rfl, _, k0, k1, k2, k3, k4, k5, k6⟩ := H4.out (by omega)
 obtain ⟨T, hT, hT1, hTu⟩ := Ej wo
 have hTb := hT.below
 have hTn := hT.next
 have HTu := zh hTu
 clear hTu
 have HTQ := zh (fun x (hx : In T x) => hQn _ _ hQr (hTb _ hx))
 have e0 := fun x (hx : In T x) => k0 k x hlt (hRb _ (HQR.out _ (HTQ.out _ hx)))
 have e1 := fun x (hx : In T x) => k1 k x hlt (hRb _ (HQR.out _ (HTQ.out _ hx)))
 have e2 := fun x (hx : In T x) => k2 k x hlt (hRb _ (HQR.out _ (HTQ.out _ hx)))
 have e3 := fun x (hx : In T x) => k3 k x hlt (hRb _ (HQR.out _ (HTQ.out _ hx)))
 have e4 := fun x (hx : In T x) => k4 k x hlt (hRb _ (HQR.out _ (HTQ.out _ hx)))
 have e5 := fun x (hx : In T x) => k5 k x hlt (hRb _ (HQR.out _ (HTQ.out _ hx)))
 have e6 := fun x (hx : In T x) => k6 k x hlt (hRb _ (HQR.out _ (HTQ.out _ hx)))
 clear k0 k1 k2 k3 k4 k5 k6
 have hj1 : (0 : Int) ≤ (k : Int) := by omega
 have hj2 : (k : Int) < (n : Int) := by omega
 have Hrr := zh (Dq s k)
 obtain ⟨v2, hbx, hrv⟩ := HA.out.box
 obtain ⟨a2, c2, rfl⟩ := hrv.vshape
 have hl3 := (Dq s k).len
 rw [hl3] at hbx hrv
 have hDl : D < wo.heap.size := lt_of_block hbx
 have hxo := (hQb _ hQr).size
 have dd := fun x (hx : In T x) => Aa (j := 0) (Al hbx (hTb _ hx)) rfl
 have Hrv := zh hrv.low
 have Hbx := zh hbx
 clear hrv hbx hl3
 obtain ⟨te, hte⟩ : ∃ te, te = DN (CV s k) (ac s k) := ⟨_, rfl⟩
 obtain ⟨tb, htb⟩ : ∃ tb, tb = KW (CV s k) (ac s k) := ⟨_, rfl⟩
 obtain ⟨dl, hdl⟩ : ∃ dl, dl = Kq (CV s k) (ac s k) := ⟨_, rfl⟩
 have HDo := zh (fun x (hx : In T x) => UI (CV s k) (ac s k) _ _ _ _ _ x (Hrv.out.below (hTb _ hx)) Hrr.out ((H5.out k hlt).below (hRb _ (HQR.out _ (HTQ.out _ hx)))))
 simp only [KJ] at HDo
 rw [← hte, ← htb, ← hdl] at HDo
 have Hte := zh hte
 have Htb := zh htb
 have Hdl := zh hdl
 clear hte htb hdl
 have HS := zh (fun (x : World) (b : Nat) (hx : wo.heap.size ≤ x.heap.size) (hb : ((((G b ∧ b ≠ D ∧ t9.ownBlock ≠ some b ∧ d9.ownBlock ≠ some b) ∧ b < wo.heap.size) ∨ b < w.heap.size) ∨ x.heap.size ≤ b)) => (show G b ∧ b ≠ D ∧ t9.ownBlock ≠ some b ∧ d9.ownBlock ≠ some b from by
  rcases hb with (hb | hb) | hb
  ·exact hb.1
  ·have := HD9.out; have := Hs5.out
   refine ⟨(HG.out b).2 (.inl hb), by omega, fun e => ?_, fun e => ?_⟩
   ·have := (HA.out.told.lt b e).1; omega
   ·have := (HA.out.done.lt b e).1; omega
  ·refine ⟨(HG.out b).2 (.inr (by omega)), by omega, fun e => ?_, fun e => ?_⟩
   ·have := (HA.out.told.lt b e).2; omega
   ·have := (HA.out.done.lt b e).2; omega))
 go_upto_region 9 with fail
 go_cut [10, 11, 12] (fun s10 s11 s12 wx => ∃ D9, s10 = .pointer (some ⟨D9, 0, none⟩) ∧ s11 = .bool tb ∧ s12 = .int .i64 te ∧ ∃ y9, y9 = wx ∧ Hid (In T y9 ∧ wo.heap.size ≤ D9 ∧ ∃ a5 c5, y9.heap[D9]? = some (.cells #[.slice a5 dl.length c5] 66 (0, 0)) ∧ AE (fun b => ((G b ∧ b ≠ D ∧ t9.ownBlock ≠ some b ∧ d9.ownBlock ≠ some b) ∧ b < y9.heap.size) ∧ b ≠ D9) y9 (.slice a5 dl.length c5) dl))
 case first =>
  refine wp_region_held (S := In T) (by kernel_rfl) ?_
  change wpAnyH _ _ _ _ _ _ _ _ (World.drew _)
  have hC0 := hT.drew _ hT1
  generalize hx0 : wo.drew = z0 at hC0 ⊢
  clear hx0
  refine tk 0 (.agg #[.slice a2 3 c2]) (fun w hSw => ?_) hC0 ?_
  ·have yy := dd _ hSw; go_simp
  simp only [tkS]
  refine tk 1 (.slice (some ⟨b0, off0, none⟩) n cap) (fun w hSw => ?_) hC0 ?_
  ·go_simp
  simp only [tkS]
  refine tk 2 (.int .i64 (k : Int)) (fun w hSw => ?_) hC0 ?_
  ·go_simp
  simp only [tkS]
  refine tk 3 (.pointer (some ⟨b0, off0 + k * 7, none⟩)) (fun w hSw => ?_) hC0 ?_
  ·go_simp
  simp only [tkS]
  refine tk 4 (.agg #[.int .i64 (ac s k).kind, .int .i64 (ac s k).on, .int .i64 (ac s k).up, .int .i64 (ac s k).late, .slice (fr k).oa (ac s k).push.objects.length (fr k).oc, .slice (fr k).ua (ac s k).push.updates.length (fr k).uc, .bool (ac s k).push.force]) (fun w hSw => ?_) hC0 ?_
  ·have y0 := e0 _ hSw; have y1 := e1 _ hSw; have y2 := e2 _ hSw; have y3 := e3 _ hSw; have y4 := e4 _ hSw; have y5 := e5 _ hSw; have y6 := e6 _ hSw; go_simp
  simp only [tkS]
  refine al2 5 10 ?_ ?_
  ·skip
   refine Or.inl ?_
   go_wp2_with fail
   refine (HDo.out _ hC0).mono ?_
   rintro e x20 ⟨v5, rfl, hv, hb1⟩
   obtain ⟨a5, c5, rfl⟩ := hv.vshape
   have hC1 := hTn _ _ hC0 hb1
   have hx9 := (hTb _ hC0).size
   have Hv := zh (hv.low.weaken (S' := fun b => (G b ∧ b ≠ D ∧ t9.ownBlock ≠ some b ∧ d9.ownBlock ≠ some b) ∧ b < x20.heap.size) fun b hb => ⟨HS.out _ b hx9 hb.1, hb.2⟩)
   clear hv hx9
   go_simp
   clear hb1
   generalize x20 = z1 at *
   refine tk 6 (.tuple #[.agg #[.slice a5 dl.length c5], .bool tb, .int .i64 te]) (fun w hSw => ?_) hC1 ?_
   ·go_simp
   simp only [tkS]
   refine tk 7 (.agg #[.slice a5 dl.length c5]) (fun w hSw => ?_) hC1 ?_
   ·go_simp
   simp only [tkS]
   refine tk 8 (.bool tb) (fun w hSw => ?_) hC1 ?_
   ·go_simp
   simp only [tkS]
   refine tk 9 (.int .i64 te) (fun w hSw => ?_) hC1 ?_
   ·go_simp
   simp only [tkS]
   refine al1 10 ?_
   refine Or.inl ?_
   have Hv2 := zh ((Hv.out.below ((Below.refl _ _).alloc (Nat.le_refl _) (.cells #[.slice none 0 0] 66))).weaken (S' := fun b => ((G b ∧ b ≠ D ∧ t9.ownBlock ≠ some b ∧ d9.ownBlock ≠ some b) ∧ b < (z1.alloc (.cells #[.slice none 0 0] 66)).heap.size) ∧ b ≠ z1.heap.size) fun b hb => ⟨⟨hb.1, by simp; omega⟩, by omega⟩)
   clear Hv
   have hC2 := hT.alloc _ (.cells #[.slice none 0 0] 66) hC1
   go_simp
   have hbA : Below z1.heap.size z1 (z1.alloc (.cells #[.slice none 0 0] 66)) := bal
   have HDb := zh (heap_alloc_new z1 (.cells #[.slice none 0 0] 66))
   have HDge := zh (hTb _ hC1).size
   clear hbA
   generalize z1.heap.size = D5 at *
   generalize z1.alloc (.cells #[.slice none 0 0] 66) = z2 at *
   refine al1 11 ?_
   refine Or.inl ?_
   have hblk := HDb.out
   have p0 := Aa (j := 0) hblk rfl
   have q0 := Ab (j := 0) hblk
   have Hb7 := zh (show (z2.setCell ⟨D5, 0, none⟩ (.slice a5 dl.length c5)).heap[D5]? = some (.cells #[.slice a5 dl.length c5] 66 (0, 0)) from Ad (j := 0) hblk (.slice a5 dl.length c5))
   have Hu7 := zh (show Aq (fun b => b = D5) z2 (z2.setCell ⟨D5, 0, none⟩ (.slice a5 dl.length c5)) from (Aq.refl (fun b => b = D5) _).setCell (p := ⟨D5, 0, none⟩) (fun _ => rfl) _)
   have hC3 := HTu.out _ _ _ hC2 Hu7.out (fun b hb => by have := HDge.out; have e2 : b = D5 := hb; omega)
   have Hv7 := zh ((Hv2.out.upd Hu7.out (fun b hb e => hb.2 e)).weaken (S' := fun b => ((G b ∧ b ≠ D ∧ t9.ownBlock ≠ some b ∧ d9.ownBlock ≠ some b) ∧ b < (z2.setCell ⟨D5, 0, none⟩ (.slice a5 dl.length c5)).heap.size) ∧ b ≠ D5) fun b hb => ⟨⟨hb.1.1, by have := hb.1.2; have := Hu7.out.size; omega⟩, hb.2⟩)
   go_wp2_with fail
   first | refine ⟨hC3, ?_⟩ | skip
   change wpAnyH _ _ _ _ _ _ _ _ (z2.setCell ⟨D5, 0, none⟩ (.slice a5 dl.length c5))
   generalize (z2.setCell ⟨D5, 0, none⟩ (.slice a5 dl.length c5)) = z3 at *
   clear hblk Hu7 p0 q0
   refine tk 12 (.bool tb) (fun w hSw => ?_) hC3 ?_
   ·go_simp
   simp only [tkS]
   refine tk 13 (.int .i64 te) (fun w hSw => ?_) hC3 ?_
   ·go_simp
   simp only [tkS]
   refine wpAnyH_done (by kernel_rfl) ?_ _
   have HEnd := zh (show In T z3 ∧ wo.heap.size ≤ D5 ∧ ∃ a5 c5, z3.heap[D5]? = some (.cells #[.slice a5 dl.length c5] 66 (0, 0)) ∧ AE (fun b => ((G b ∧ b ≠ D ∧ t9.ownBlock ≠ some b ∧ d9.ownBlock ≠ some b) ∧ b < z3.heap.size) ∧ b ≠ D5) z3 (.slice a5 dl.length c5) dl from ⟨hC3, HDge.out, a5, c5, Hb7.out, Hv7.out⟩)
   go_wp2_with fail
   go_meet
   exact ⟨D5, rfl, rfl, rfl, z3, rfl, HEnd⟩
  refine Or.inl ?_
  have hC1 := hT.alloc _ (.cells #[.slice none 0 0] 66) hC0
  go_simp
  have hbA : Below z0.heap.size z0 (z0.alloc (.cells #[.slice none 0 0] 66)) := bal
  have HDb := zh (heap_alloc_new z0 (.cells #[.slice none 0 0] 66))
  have HDge := zh (hTb _ hC0).size
  clear hbA
  generalize z0.heap.size = D5 at *
  generalize z0.alloc (.cells #[.slice none 0 0] 66) = z1 at *
  refine al1 5 ?_
  refine Or.inl ?_
  go_wp2_with fail
  refine (HDo.out _ hC1).mono ?_
  rintro e x20 ⟨v5, rfl, hv, hb1⟩
  obtain ⟨a5, c5, rfl⟩ := hv.vshape
  have hC2 := hTn _ _ hC1 hb1
  have HDx := zh (show D5 < z1.heap.size from lt_of_block HDb.out)
  replace HDb := zh (Al HDb.out hb1)
  have hx9 := (hTb _ hC1).size
  have Hv2 := zh (hv.low.weaken (S' := fun b => ((G b ∧ b ≠ D ∧ t9.ownBlock ≠ some b ∧ d9.ownBlock ≠ some b) ∧ b < x20.heap.size) ∧ b ≠ D5) fun b hb => ⟨⟨HS.out _ b hx9 hb.1, hb.2⟩, fun e => by have := HDx.out; have := HDge.out; have := (hQb _ hQr).size; have := Hs5.out; rcases hb.1 with (h | h) | h; have := h.2; omega; omega; omega⟩)
  clear hv hx9
  go_simp
  clear hb1
  generalize x20 = z2 at *
  refine tk 6 (.tuple #[.agg #[.slice a5 dl.length c5], .bool tb, .int .i64 te]) (fun w hSw => ?_) hC2 ?_
  ·go_simp
  simp only [tkS]
  refine tk 7 (.agg #[.slice a5 dl.length c5]) (fun w hSw => ?_) hC2 ?_
  ·go_simp
  simp only [tkS]
  refine tk 8 (.bool tb) (fun w hSw => ?_) hC2 ?_
  ·go_simp
  simp only [tkS]
  refine tk 9 (.int .i64 te) (fun w hSw => ?_) hC2 ?_
  ·go_simp
  simp only [tkS]
  refine al1 11 ?_
  refine Or.inl ?_
  have hblk := HDb.out
  have p0 := Aa (j := 0) hblk rfl
  have q0 := Ab (j := 0) hblk
  have Hb7 := zh (show (z2.setCell ⟨D5, 0, none⟩ (.slice a5 dl.length c5)).heap[D5]? = some (.cells #[.slice a5 dl.length c5] 66 (0, 0)) from Ad (j := 0) hblk (.slice a5 dl.length c5))
  have Hu7 := zh (show Aq (fun b => b = D5) z2 (z2.setCell ⟨D5, 0, none⟩ (.slice a5 dl.length c5)) from (Aq.refl (fun b => b = D5) _).setCell (p := ⟨D5, 0, none⟩) (fun _ => rfl) _)
  have hC3 := HTu.out _ _ _ hC2 Hu7.out (fun b hb => by have := HDge.out; have e2 : b = D5 := hb; omega)
  have Hv7 := zh ((Hv2.out.upd Hu7.out (fun b hb e => hb.2 e)).weaken (S' := fun b => ((G b ∧ b ≠ D ∧ t9.ownBlock ≠ some b ∧ d9.ownBlock ≠ some b) ∧ b < (z2.setCell ⟨D5, 0, none⟩ (.slice a5 dl.length c5)).heap.size) ∧ b ≠ D5) fun b hb => ⟨⟨hb.1.1, by have := hb.1.2; have := Hu7.out.size; omega⟩, hb.2⟩)
  go_wp2_with fail
  first | refine ⟨hC3, ?_⟩ | skip
  change wpAnyH _ _ _ _ _ _ _ _ (z2.setCell ⟨D5, 0, none⟩ (.slice a5 dl.length c5))
  generalize (z2.setCell ⟨D5, 0, none⟩ (.slice a5 dl.length c5)) = z3 at *
  clear hblk Hu7 p0 q0
  refine tk 12 (.bool tb) (fun w hSw => ?_) hC3 ?_
  ·go_simp
  simp only [tkS]
  refine tk 13 (.int .i64 te) (fun w hSw => ?_) hC3 ?_
  ·go_simp
  simp only [tkS]
  refine wpAnyH_done (by kernel_rfl) ?_ _
  have HEnd := zh (show In T z3 ∧ wo.heap.size ≤ D5 ∧ ∃ a5 c5, z3.heap[D5]? = some (.cells #[.slice a5 dl.length c5] 66 (0, 0)) ∧ AE (fun b => ((G b ∧ b ≠ D ∧ t9.ownBlock ≠ some b ∧ d9.ownBlock ≠ some b) ∧ b < z3.heap.size) ∧ b ≠ D5) z3 (.slice a5 dl.length c5) dl from ⟨hC3, HDge.out, a5, c5, Hb7.out, Hv7.out⟩)
  go_wp2_with fail
  go_meet
  exact ⟨D5, rfl, rfl, rfl, z3, rfl, HEnd⟩
 obtain ⟨D9, rfl, rfl, rfl, y7, rfl, HK9⟩ := hcut
 obtain ⟨hT7, hD7, a5, c5, hb7, hv7⟩ := HK9.out
 have hQ7 := HTQ.out _ hT7
 have hb37 := hTb _ hT7
 have HA3 := zh (HA.out.below hb37)
 have HD3 := zh (Al Hbx.out hb37)
 have HVo := zh (Hrv.out.below hb37)
 have Hb7 := zh hb7
 have Hv7 := zh hv7
 have hsz7 := hb37.size
 clear HK9 hb7 hv7 hb37 HDo dd HS e0 e1 e2 e3 e4 e5 e6
 by_cases hz : te = 0
 case neg =>
  have q9 : (te == 0) = false := by simpa using hz
  have hrl : CV s (k + 1) = CV s k := by show DV (CV s k) (ac s k) = _; unfold DV; rw [if_neg (by rw [← Hte.out]; exact hz)]
  have HV3 := zh (show AE (fun b => (G b ∧ b ≠ D ∧ t9.ownBlock ≠ some b ∧ d9.ownBlock ≠ some b) ∧ b < y7.heap.size) y7 (.slice a2 3 c2) (CV s (k + 1)) from by rw [hrl]; exact HVo.out.weaken fun b hb => ⟨hb.1, by have := hb.2; omega⟩)
  have Hu4 := zh (Aq.refl (fun b => b = D) y7)
  have HD4 := HD3
  have HT4 := zh HA3.out.told
  have HO4 := zh HA3.out.done
  have hB4 := (hQb _ hQ7).size
  clear hz hrl
  go_upto_region 12 with fail
  go_wp2_with (at_builtin; refine Ed (z := tb) rfl _ _ rfl HT4.out (by omega) hB4 rfl rfl (by first | rfl | simp) ?_)
  intro tv w5 ht5 hu5 hta
  have HO5 := zh (CY HO4.out hu5 (fun g hg e => HA3.out.apart g e hg))
  have hQ5 := HQu.out _ _ _ hQ7 hu5 (fun b hb => (HT4.out.lt b hb).1)
  have hB5 := (hQb _ hQ5).size
  have Ht5 := zh ht5
  have Hu5 := zh hu5
  have Hta := zh hta
  clear ht5 hu5 hta
  go_wp2_with (at_builtin; refine EA (z := te) rfl _ _ rfl HO5.out (by omega) hB5 rfl rfl (by first | rfl | simp) ?_)
  intro dv w6 hd6 hu6 hda
  have hQ6 := HQu.out _ _ _ hQ5 hu6 (fun b hb => (HO5.out.lt b hb).1)
  have HA6 := zh (show RefAt G x5.heap.size D w6 s (k + 1) tv dv from HA3.out.next HV3.out Hu4.out HD4.out Hu5.out (by rw [show (Ft s (k + 1)).map Value.bool = (Ft s k).map Value.bool ++ [.bool tb] from by rw [Htb.out, Ft, List.map_append]; rfl]; exact Ht5.out) Hta.out hu6 (by rw [show (EH s (k + 1)).map (Value.int .i64) = (EH s k).map (Value.int .i64) ++ [.int .i64 te] from by rw [Hte.out, EH, List.map_append]; rfl]; exact hd6) hda)
  go_wp2_with fail
  go_roundw
  case rel => exact ⟨k + 1, _, _, by omega, by go_num, rfl, rfl, hQ6, HA6⟩
  case measure => simp [intOf]; omega
 have q9 : (te == 0) = true := by simpa using hz
 have hrl : CV s (k + 1) = dl := by rw [Hdl.out]; show DV (CV s k) (ac s k) = _; unfold DV Kq; rw [if_pos (by rw [← Hte.out]; exact hz), if_pos (by rw [← Hte.out]; exact hz)]
 have HV3 := zh (show AE (fun b => (G b ∧ b ≠ D ∧ t9.ownBlock ≠ some b ∧ d9.ownBlock ≠ some b) ∧ b < y7.heap.size) y7 (.slice a5 dl.length c5) (CV s (k + 1)) from by rw [hrl]; exact Hv7.out.weaken fun b hb => hb.1)
 have x0 := Aa (j := 0) Hb7.out rfl
 have gz := Aa (j := 0) HD3.out rfl
 have fz := Ab (j := 0) HD3.out
 have hu4 : Aq (fun b => b = D) y7 (y7.setCell ⟨D, 0, none⟩ (.slice a5 dl.length c5)) := (Aq.refl (fun b => b = D) y7).setCell (p := ⟨D, 0, none⟩) (fun _ => rfl) _
 have hD4 : (y7.setCell ⟨D, 0, none⟩ (.slice a5 dl.length c5)).heap[D]? = some (.cells #[.slice a5 dl.length c5] 66 (0, 0)) := Ad (j := 0) HD3.out (.slice a5 dl.length c5)
 have hQ4 := HQu.out _ _ _ hQ7 hu4 (fun b hb => by have e2 : b = D := hb; have := HD9.out; omega)
 have ntD : t9.ownBlock ≠ some D := Ex HA3.out.told HD3.out (by decide)
 have ndD : d9.ownBlock ≠ some D := Ex HA3.out.done HD3.out (by decide)
 have HT4 := zh (CY HA3.out.told hu4 (fun g hg e => ntD (by have e2 : g = D := e; rw [hg, e2])))
 have HO4 := zh (CY HA3.out.done hu4 (fun g hg e => ndD (by have e2 : g = D := e; rw [hg, e2])))
 have hB4 := (hQb _ hQ4).size
 have Hu4 := zh hu4
 have HD4 := zh hD4
 go_upto_region 12 with fail
 clear hu4 hD4 x0 gz fz ntD ndD hz hrl
 generalize (y7.setCell ⟨D, 0, none⟩ (.slice a5 dl.length c5)) = w4 at *
 go_wp2_with (at_builtin; refine Ed (z := tb) rfl _ _ rfl HT4.out (by omega) hB4 rfl rfl (by first | rfl | simp) ?_)
 intro tv w5 ht5 hu5 hta
 have HO5 := zh (CY HO4.out hu5 (fun g hg e => HA3.out.apart g e hg))
 have hQ5 := HQu.out _ _ _ hQ4 hu5 (fun b hb => (HT4.out.lt b hb).1)
 have hB5 := (hQb _ hQ5).size
 have Ht5 := zh ht5
 have Hu5 := zh hu5
 have Hta := zh hta
 clear ht5 hu5 hta
 go_wp2_with (at_builtin; refine EA (z := te) rfl _ _ rfl HO5.out (by omega) hB5 rfl rfl (by first | rfl | simp) ?_)
 intro dv w6 hd6 hu6 hda
 have hQ6 := HQu.out _ _ _ hQ5 hu6 (fun b hb => (HO5.out.lt b hb).1)
 have HA6 := zh (show RefAt G x5.heap.size D w6 s (k + 1) tv dv from HA3.out.next HV3.out Hu4.out HD4.out Hu5.out (by rw [show (Ft s (k + 1)).map Value.bool = (Ft s k).map Value.bool ++ [.bool tb] from by rw [Htb.out, Ft, List.map_append]; rfl]; exact Ht5.out) Hta.out hu6 (by rw [show (EH s (k + 1)).map (Value.int .i64) = (EH s k).map (Value.int .i64) ++ [.int .i64 te] from by rw [Hte.out, EH, List.map_append]; rfl]; exact hd6) hda)
 go_wp2_with fail
 go_roundw
 case rel => exact ⟨k + 1, _, _, by omega, by go_num, rfl, rfl, hQ6, HA6⟩
 case measure => simp [intOf]; omega
def VD : ByteArray := ⟨#[61]⟩
def Pj : ByteArray := ⟨#[59]⟩
def UK : ByteArray := ⟨#[58]⟩
def Ta (x : Rf) : ByteArray := x.name ++ VD ++ Bb x.id ++ Pj
def Fx (l : List Rf) (s : ByteArray) : Nat → ByteArray
 | 0 => s
 | k + 1 => Fx l s k ++ Ta (rf l k)
def UT (r : An) : ByteArray := Fx r.refs (Bb r.gen ++ UK) r.refs.length
def Wo (l : List An) : ByteArray := if Dy l = 0 then UT (Ai l (CR l)) else ⟨#[]⟩
theorem VJ {r : An} (h : Ct r) {k : Nat} (hk : k < r.refs.length) : (0 ≤ (rf r.refs k).id ∧ (rf r.refs k).id ≤ 999) ∧ (rf r.refs k).name.size ≤ 12 ∧ r.refs.length ≤ 8 := by
 obtain ⟨h1, h2⟩ := Bp.1 h.refs
 have h3 := h2.commit k hk
 obtain ⟨j, hj, hid, _⟩ := FB (l := r.store) (id := (rf r.refs k).id) (by rw [h3]; decide)
 have h4 := Fh ((Gq h1).each j hj)
 exact ⟨by omega, Gv (h2.name k hk), h2.many⟩
theorem Le {r : An} (h : Ct r) {s : ByteArray} (hs : s.size ≤ 100) : ∀ k, k ≤ r.refs.length → (Fx r.refs s k).size ≤ 100 + 40 * k
 | 0, _ => by show s.size ≤ _; omega
 | k + 1, hk => by
  have ih := Le h hs k (by omega)
  obtain ⟨h1, h2, _⟩ := VJ h (k := k) (by omega)
  have h3 := Ek h1.1 h1.2
  have e1 : VD.size = 1 := by decide +kernel
  have e2 : Pj.size = 1 := by decide +kernel
  unfold Fx Ta
  rw [ByteArray.size_append, ByteArray.size_append, ByteArray.size_append, ByteArray.size_append]
  omega
theorem Pt (l : List An) (cv : Value) (S : Nat → Prop) (w : World) (h : AE S w cv l) (ht : QY w) :
  Calls Tryz.prog 38 #[.agg #[cv]] w fun e w' => e = .returned (.tuple #[.string (Wo l), .int .i64 (Dy l)]) ∧ Below w.heap.size w w' := by
 have H := zh h
 have HTw := zh ht
 have HS := zh (show Wo l = if Dy l = 0 then UT (Ai l (CR l)) else ⟨#[]⟩ from rfl)
 have Hnw := zh (show XQ l = if Dy l = 0 then (CR l : Int) else 0 from rfl)
 obtain ⟨a, n, cap, fr, HN, rfl, _, _, _, h4, h5⟩ := h.open
 obtain ⟨R, hR, hR1, HB0⟩ := AL w [.cells #[.slice a n cap] 66]
 simp only [List.foldl] at hR1
 have hRb := hR.below
 have hRn := hR.next
 have c0 := fun x (hx : In R x) => Aa (j := 0) (HB0 x hx 0 _ rfl) rfl
 simp only [Nat.add_zero] at c0
 clear HB0
 have HNw := zh (fun x (hx : In R x) => Rx l _ _ x (H.out.below (hRb _ hx)))
 have cc := c0 _ hR1
 have H4 := zh h4
 have H5 := zh h5
 clear h ht h4 h5
 by_cases hz : Dy l = 0
 case neg =>
  rw [if_neg hz] at HS Hnw
  rw [Hnw.out] at HNw
  have q1 : (Dy l != 0) = true := by simpa using hz
  clear hz Hnw
  generalize Dy l = ce at *
  go_enter Tryz.func38, Tryz.ntmps38
  go_wp2_with fail
  refine (HNw.out _ hR1).mono ?_
  rintro e w1 ⟨rfl, hb1⟩
  have hR2 := hRn _ _ hR1 hb1
  clear hb1 cc
  have HE := zh (hRb _ hR2)
  go_wp2_with fail
  refine bodyPost_ret (v := .tuple #[.string ⟨#[]⟩, .int .i64 ce]) (by simp [results, Tryz.results38, go_sem] <;> rfl) rfl ?_
  exact ⟨by rw [HS.out], HE.out⟩
 have hc := KU.1 hz
 have hl3 := hc.len
 obtain rfl : n = 3 := HN.out.trans hl3
 have hbl : CR l < 3 := by have := Kr (l := l) (by omega); omega
 rw [if_pos hz] at HS Hnw
 rw [Hnw.out, hz] at HNw
 rw [hz]
 have Hr := zh (hc.each _ hbl)
 clear hz Hnw hc hl3 HN
 generalize hbe : CR l = b at *
 clear hbe
 obtain ⟨b0, off0, rfl, _, k0, k1, k2, k3, k4, k5, k6⟩ := H4.out (by omega)
 have Hk := zh (And.intro k0 (And.intro k1 (And.intro k2 (And.intro k3 (And.intro k4 (And.intro k5 k6))))))
 clear k0 k1 k2 k3 k4 k5 k6 H4
 have HRf := zh (H5.out b hbl).refs
 have hi1 : (0 : Int) ≤ (b : Int) := by omega
 have hi2 : (b : Int) < 3 := by omega
 go_enter Tryz.func38, Tryz.ntmps38
 go_wp2_with fail
 refine (HNw.out _ hR1).mono ?_
 rintro e w1 ⟨rfl, hb1⟩
 have hR2 := hRn _ _ hR1 hb1
 clear hb1 cc
 have cc := c0 _ hR2
 have x0 := Hk.out.1 b w1 hbl (hRb _ hR2)
 have x1 := Hk.out.2.1 b w1 hbl (hRb _ hR2)
 have x2 := Hk.out.2.2.1 b w1 hbl (hRb _ hR2)
 have x3 := Hk.out.2.2.2.1 b w1 hbl (hRb _ hR2)
 have x4 := Hk.out.2.2.2.2.1 b w1 hbl (hRb _ hR2)
 have x5 := Hk.out.2.2.2.2.2.1 b w1 hbl (hRb _ hR2)
 have x6 := Hk.out.2.2.2.2.2.2 b w1 hbl (hRb _ hR2)
 have hR3 := hR.alloc _ (.cells (c7 (Ai l b) (fr b).sa (fr b).sc (fr b).ra (fr b).rc (fr b).oa (fr b).oc (fr b).ua (fr b).uc) 28) hR2
 have HX := zh (heap_alloc_new w1 (.cells (c7 (Ai l b) (fr b).sa (fr b).sc (fr b).ra (fr b).rc (fr b).oa (fr b).oc (fr b).ua (fr b).uc) 28))
 have hgen := Hr.out.gen
 have HIt := zh (fun x (hx : In R x) (n : Int) (hn : 0 ≤ n ∧ n ≤ 999) => PC n hn.1 hn.2 x (HTw.out.below (hRb _ hx)))
 have HI0 := zh (HIt.out _ hR3 _ hgen)
 have hds := Ek hgen.1 hgen.2
 have hp0 : ¬ 9223372036854775807 < (Bb (Ai l b).gen).size + 1 := by omega
 have e1 : UK.size = 1 := by decide +kernel
 have Hds := zh (show (Bb (Ai l b).gen ++ UK).size ≤ 100 from by rw [ByteArray.size_append]; omega)
 clear e1 hgen hds
 have HsS := zh (show UT (Ai l b) = Fx (Ai l b).refs (Bb (Ai l b).gen ++ UK) (Ai l b).refs.length from rfl)
 go_wp2_with fail
 refine HI0.out.mono ?_
 rintro e w4 ⟨rfl, hb4⟩
 have hR4 := hRn _ _ hR3 hb4
 replace HX := zh (Al HX.out hb4)
 clear hb4 cc HI0 x0 x1 x2 x3 x4 x5 x6
 generalize w1.heap.size = DX at *
 have x1 := Aa (j := 1) HX.out rfl
 obtain ⟨s0, hs0⟩ : ∃ s0, s0 = Bb (Ai l b).gen ++ UK := ⟨_, rfl⟩
 rw [← hs0] at HsS Hds
 have Hs0 := zh hs0
 go_wp2_with fail
 have Hre := zh (fun k (hk : k < (Ai l b).refs.length) => VJ Hr.out hk)
 have Hsz := zh (fun k (hk : k ≤ (Ai l b).refs.length) => Le Hr.out Hds.out k hk)
 clear hs0 x1
 generalize hrs : (Ai l b).refs = rs at *
 clear hrs
 obtain ⟨T, hT, hT1, _⟩ := Ax w4
 have hTb := hT.below
 have hTn := hT.next
 have HTR := zh (fun x (hx : In T x) => hRn _ _ hR4 (hTb _ hx))
 go_loopw [7, 30] (fun s i wr => ∃ k : Nat, k ≤ rs.length ∧ i = .int .i64 k ∧ s = .string (Fx rs s0 k) ∧ In T wr) (fun _ i _ => rs.length - (intOf i).toNat)
 case atStart => exact ⟨0, Nat.zero_le _, rfl, by rw [show Fx rs s0 0 = s0 from rfl, Hs0.out]; rfl, hT1⟩
 obtain ⟨k, hk, rfl, rfl, hTr⟩ := hrel
 obtain ⟨wo, rfl⟩ : ∃ wo : World, wo = wr := ⟨_, rfl⟩
 by_cases hlt : k < rs.length
 case neg =>
  obtain rfl : k = rs.length := by omega
  have HE := zh (hRb _ (HTR.out _ hTr))
  go_wp2_with fail
  refine bodyPost_ret (v := .tuple #[.string (Fx rs s0 rs.length), .int .i64 0]) (by simp [results, Tryz.results38, go_sem] <;> rfl) rfl ?_
  exact ⟨by rw [HS.out, HsS.out], HE.out⟩
 have HnS := zh (show Fx rs s0 (k + 1) = Fx rs s0 k ++ ((rf rs k).name ++ VD ++ Bb (rf rs k).id ++ Pj) from rfl)
 obtain ⟨hid, hnm, hm8⟩ := Hre.out k hlt
 have hsz := Hsz.out k hk
 have hdd := Ek hid.1 hid.2
 have HI1 := zh (fun x (hx : In T x) => HIt.out x (HTR.out x hx) _ hid)
 obtain ⟨ar, nr, capr, HNr, er, _, _, hr3, hr4, _⟩ := HRf.out.open
 obtain rfl : nr = rs.length := HNr.out
 obtain ⟨br, ofr, har, _, hrn, hri⟩ := hr4 (by omega)
 have hra : (fr b).ra = some ⟨br, ofr, none⟩ := by cases er; exact har
 have y0 := hrn k wo hlt (hRb _ (HTR.out _ hTr))
 have y1 := hri k wo hlt (hRb _ (HTR.out _ hTr))
 have hj1 : (0 : Int) ≤ (k : Int) := by omega
 have hj2 : (k : Int) < (rs.length : Int) := by omega
 generalize Fx rs s0 k = s at *
 generalize (rf rs k).name = nm at *
 generalize (rf rs k).id = id at *
 clear er har HNr hrn hri hr3 hr4
 have Hra := zh hra
 clear hra
 have n1 : ¬ 9223372036854775807 < nm.size + 1 := by omega
 have n2 : ¬ 9223372036854775807 < nm.size + 1 + (Bb id).size := by omega
 have n3 : ¬ 9223372036854775807 < nm.size + 1 + (Bb id).size + 1 := by omega
 have n4 : ¬ 9223372036854775807 < s.size + (nm.size + 1 + (Bb id).size + 1) := by omega
 have hTa := hT.alloc _ (.cells #[.string nm, .int .i64 id] 62) hTr
 have HU := zh (heap_alloc_new wo (.cells #[.string nm, .int .i64 id] 62))
 rw [Hra.out]
 go_upto_region 9 with fail
 generalize wo.alloc (.cells #[.string nm, .int .i64 id] 62) = wu at *
 generalize wo.heap.size = U at *
 clear y0 y1
 obtain ⟨Q, hQ, hQ1, _⟩ := Ax wu
 have hQb := hQ.below
 have hQn := hQ.next
 have HQT := zh (fun x (hx : In Q x) => hTn _ _ hTa (hQb _ hx))
 have e0 := fun x (hx : In Q x) => Aa (j := 0) (Al HU.out (hQb _ hx)) rfl
 have e1 := fun x (hx : In Q x) => Aa (j := 1) (Al HU.out (hQb _ hx)) rfl
 generalize hdi : Bb id = di at *
 clear hdi
 refine wp_region_held (S := In Q) (by kernel_rfl) ?_
 change wpAnyH _ _ _ _ _ _ _ _ (World.drew _)
 have hC0 := hQ.drew _ hQ1
 generalize hx0 : wu.drew = x0 at hC0 ⊢
 clear hx0
 refine tk 0 (.string s) (fun w hSw => ?_) hC0 ?_
 ·go_simp
 simp only [tkS]
 refine tk 1 (.pointer (some ⟨U, 0, none⟩)) (fun w hSw => ?_) hC0 ?_
 ·go_simp
 simp only [tkS]
 refine tk 2 (.string nm) (fun w hSw => ?_) hC0 ?_
 ·have yy := e0 _ hSw; go_simp
 simp only [tkS]
 refine tk 3 (.string (nm ++ VD)) (fun w hSw => ?_) hC0 ?_
 ·show _ = Result.ok (Next.value (Value.string (nm ++ (⟨#[61]⟩ : ByteArray)))) w; go_simp
 simp only [tkS]
 refine tk 4 (.pointer (some ⟨U, 1, none⟩)) (fun w hSw => ?_) hC0 ?_
 ·go_simp
 simp only [tkS]
 refine tk 5 (.int .i64 id) (fun w hSw => ?_) hC0 ?_
 ·have yy := e1 _ hSw; go_simp
 simp only [tkS]
 refine al1 6 ?_
 refine Or.inl ?_
 go_wp2_with fail
 refine (HI1.out _ (HQT.out _ hC0)).mono ?_
 rintro e x1 ⟨rfl, hb0⟩
 have hC1 := hQn _ _ hC0 hb0
 clear hb0
 go_simp
 refine tk 7 (.string (nm ++ VD ++ di)) (fun w hSw => ?_) hC1 ?_
 ·have e9 : (nm ++ VD).size = nm.size + 1 := (by rw [ByteArray.size_append]; rfl); go_simp
 simp only [tkS]
 refine tk 8 (.string (nm ++ VD ++ di ++ Pj)) (fun w hSw => ?_) hC1 ?_
 ·have e7 : (⟨#[59]⟩ : ByteArray) = Pj := rfl; have e8 : Pj.size = 1 := (by decide +kernel); have e9 : (nm ++ VD ++ di).size = nm.size + 1 + di.size := (by rw [ByteArray.size_append, ByteArray.size_append]; rfl); go_simp
 simp only [tkS]
 refine tk 9 (.string (s ++ (nm ++ VD ++ di ++ Pj))) (fun w hSw => ?_) hC1 ?_
 ·have e9 : (nm ++ VD ++ di ++ Pj).size = nm.size + 1 + di.size + 1 := (by rw [ByteArray.size_append, ByteArray.size_append, ByteArray.size_append]; rfl); go_simp
 simp only [tkS]
 refine tk 10 (.string (s ++ (nm ++ VD ++ di ++ Pj))) (fun w hSw => ?_) hC1 ?_
 ·go_simp
 simp only [tkS]
 refine wpAnyH_done (by kernel_rfl) ?_ _
 have hTe := HQT.out _ hC1
 go_wp2_with fail
 go_roundw
 case rel => exact ⟨k + 1, by omega, by go_num, by rw [HnS.out], hTe⟩
 case measure => simp [intOf]; omega
theorem RT (l : List An) (e : Int) (h : e ≠ 0 → l = []) : Nk l e e l = true := by
 unfold Nk
 by_cases h0 : e = 0
 ·rw [if_pos h0, beq_self_eq_true, Bool.true_and]; exact (Dx _ _).2 rfl
 ·rw [if_neg h0, beq_self_eq_true, Bool.true_and, h h0]; exact (Dx _ _).2 rfl
theorem Xn (s : List Ac) : Nk (Nx s) (OZ s) (OZ s) (Nx s) = true := by
 refine RT _ _ fun h => ?_
 unfold OZ at h
 unfold Nx
 by_cases h0 : s.length ≤ 12
 ·rw [if_pos h0] at h; exact absurd rfl h
 ·rw [if_neg h0]
def US : ByteArray := ⟨#[109, 97, 105, 110]⟩
def CT : BJ := ⟨Jz.take 3, [⟨US, 0, 3⟩], false⟩
def JC : An := ⟨Jz.take 3, [⟨US, 3⟩], 1, 0, Db⟩
def QN : List An := [JC, JC, Ds]
theorem UB (w : World) : Calls Tryz.prog 111 #[] w fun e w' => UM w w' e CT := by
 have hb0 := (Below.refl w.heap.size w).alloc (Nat.le_refl _) (.cells #[.slice none 0 0, .slice none 0 0, .bool false] 26)
 have hk0 := heap_alloc_new w (.cells #[.slice none 0 0, .slice none 0 0, .bool false] 26)
 have hs0 : (w.alloc (.cells #[.slice none 0 0, .slice none 0 0, .bool false] 26)).heap.size = w.heap.size + 1 := by simp
 have HB0 := zh hb0
 have HK0 := zh hk0
 have HS0 := zh hs0
 clear hb0 hk0 hs0
 go_enter Tryz.func111, Tryz.ntmps111
 go_wp2_with fail
 refine (TZ _).mono ?_
 rintro e w1 ⟨v1, rfl, hv1, hb1⟩
 obtain ⟨a1, c1, hcap1, rfl⟩ : ∃ a c, 5 ≤ c ∧ v1 = .slice a Jz.length c := let ⟨_, ⟨a, cap, hv, h1, _⟩, _⟩ := hv1; ⟨a, cap, h1, hv⟩
 have hT := hv1.lt.take (i := 3) (by decide)
 have hc3 : (3 : Int) ≤ (c1 : Int) := by omega
 rw [HS0.out] at hb1
 have hz1 := hb1.size
 rw [HS0.out] at hz1
 have hk1 := (hb1.block _ (by omega)).trans HK0.out
 have hB1 := HB0.out.trans (hb1.mono (by omega))
 have hU := OM w1 CT.updates 107 w1.heap.size rfl (by decide) (fun u hu => by
  simp only [CT, List.mem_cons, List.not_mem_nil, or_false] at hu
  subst hu
  exact ⟨AJ _ (by decide), AJ _ (by decide), by decide⟩)
 have hbU := (Below.refl w1.heap.size w1).alloc (Nat.le_refl _) (.cells #[.string ⟨#[109, 97, 105, 110]⟩, .int .i64 0, .int .i64 3] 107)
 have hk2 := (hbU.block _ (by omega)).trans hk1
 have hT2 := hT.below hbU
 have hB2 := hB1.trans (hbU.mono (by omega))
 have HT := zh hT2
 have HU := zh (show AM (fun b => b = w1.heap.size) (w1.alloc (.cells #[.string ⟨#[109, 97, 105, 110]⟩, .int .i64 0, .int .i64 3] 107)) (.slice (some ⟨w1.heap.size, 0, none⟩) 1 1) CT.updates from hU)
 have HB2 := zh hB2
 have HK2 := zh hk2
 have hz2 : (w1.alloc (.cells #[.string ⟨#[109, 97, 105, 110]⟩, .int .i64 0, .int .i64 3] 107)).heap.size = w1.heap.size + 1 := by simp
 have g0 := Aa (j := 0) hk2 rfl
 have g1 := Aa (j := 1) hk2 rfl
 have g2 := Aa (j := 2) hk2 rfl
 have f0 := Ab (j := 0) hk2
 have f1 := Ab (j := 1) hk2
 have f2 := Ab (j := 2) hk2
 clear hv1 hT hk1 hB1 hU hbU hk2 hT2 hB2 hb1 HB0 HK0
 go_wp2_with fail
 change bodyPost _ _ _ _ _ (UC w.heap.size (.slice a1 3 c1) (.slice (some ⟨w1.heap.size, 0, none⟩) 1 1) (.bool false) (w1.alloc (.cells #[.string ⟨#[109, 97, 105, 110]⟩, .int .i64 0, .int .i64 3] 107)))
 generalize w1.alloc (.cells #[.string ⟨#[109, 97, 105, 110]⟩, .int .i64 0, .int .i64 3] 107) = w2 at *
 have hb3 := SM (v0 := .slice a1 3 c1) (v1 := .slice (some ⟨w1.heap.size, 0, none⟩) 1 1) (v2 := .bool false) HK2.out
 have hu3 := Qx w.heap.size (.slice a1 3 c1) (.slice (some ⟨w1.heap.size, 0, none⟩) 1 1) (.bool false) w2
 generalize UC w.heap.size (.slice a1 3 c1) (.slice (some ⟨w1.heap.size, 0, none⟩) 1 1) (.bool false) w2 = w3 at *
 have k0 := Aa (j := 0) hb3 rfl
 have k1 := Aa (j := 1) hb3 rfl
 have k2 := Aa (j := 2) hb3 rfl
 refine bodyPost_ret (v := Fe CT (.slice a1 3 c1) (.slice (some ⟨w1.heap.size, 0, none⟩) 1 1)) (by simp [results, Tryz.results111, go_sem]; simp [k0, k1, k2]; rfl) rfl ⟨_, _, rfl, ?_, ?_, ?_⟩
 ·exact (HT.out.upd' hu3 (fun b hb e => by have e2 : b = w.heap.size := e; have h1 := hb.1; have h2 := HS0.out; omega)).weaken fun b hb => by have h1 := hb.1; have h2 := HS0.out; omega
 ·exact (HU.out.upd hu3 (fun b hb e => by have e2 : b = w.heap.size := e; omega)).weaken fun b hb => by omega
 ·exact HB2.out.trans (hu3.below (B := w.heap.size) HB2.out.size (fun b hb => by have e2 : b = w.heap.size := hb; omega))
end Go.Proofs.YtjdgpgfiomnjkaaGreatDoor
