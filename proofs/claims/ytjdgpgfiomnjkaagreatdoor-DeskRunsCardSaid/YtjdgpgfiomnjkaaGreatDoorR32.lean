/- DeskH: cluster. -/
import Derived.Test.YtjdgpgfiomnjkaaGreatDoorR31
set_option linter.all false
set_option maxHeartbeats 16000000
set_option maxRecDepth 100000
namespace Go.Proofs.YtjdgpgfiomnjkaaGreatDoor
open Go.RowKit
theorem RP (w : World) :
  Calls Tryz.prog 47 #[] w fun e w' => ∃ v, e = .returned (.agg #[v]) ∧ AE (fun b => w.heap.size ≤ b) w' v [Ds, Ds, Ds] ∧ Below w.heap.size w w' := by
 have hmk : ∀ w, (Instr.makeSlice 64 (.int .i64 3) (.int .i64 3)).run Tryz.prog w = .ok (.slice (some ⟨w.heap.size, 0, none⟩) 3 3) (w.alloc (.cells z21 28)) := fun _ => by kernel_rfl
 have hz0 := heap_alloc_new (w.alloc (.cells #[.slice (some ⟨w.heap.size + 1, 0, none⟩) 3 3] 66)) (.cells z21 28)
 have hc0 := (((Below.refl _ _).alloc (Nat.le_refl _) (.cells z21 28)).block _ (by simp)).trans (heap_alloc_new w (.cells #[.slice (some ⟨w.heap.size + 1, 0, none⟩) 3 3] 66))
 have hs0 : (w.alloc (.cells #[.slice (some ⟨w.heap.size + 1, 0, none⟩) 3 3] 66)).heap.size = w.heap.size + 1 := by simp
 rw [hs0] at hz0
 have hb0 := ((Below.refl w.heap.size w).alloc (Nat.le_refl _) (.cells #[.slice (some ⟨w.heap.size + 1, 0, none⟩) 3 3] 66)).alloc (by simp) (.cells z21 28)
 have HZ := zh hz0
 have HC := zh hc0
 have HB := zh hb0
 clear hz0 hc0 hb0 hs0
 go_enter Tryz.func47, Tryz.ntmps47
 go_wp2_with fail
 generalize ((w.alloc (.cells #[.slice (some ⟨w.heap.size + 1, 0, none⟩) 3 3] 66)).alloc (.cells z21 28)) = x at *
 have k0 := Aa (j := 0) HC.out rfl
 have hz : ∀ i, i < 3 → Ai [Ds, Ds, Ds] i = Ds := fun i hi => by
  have : i = 0 ∨ i = 1 ∨ i = 2 := by omega
  rcases this with rfl | rfl | rfl <;> rfl
 refine bodyPost_ret (v := .agg #[.slice (some ⟨w.heap.size + 1, 0, none⟩) 3 3]) (by simp [results, Tryz.results47, go_sem]; simp [k0] <;> rfl) rfl ?_
 refine ⟨_, rfl, ⟨fun _ => ⟨.slice none 0 0, .slice none 0 0, .slice none 0 0, .slice none 0 0⟩, ⟨_, 3, rfl, by decide, by decide, by decide, fun _ => ⟨_, 0, rfl, by omega, fun i hi j u hu => ?_⟩⟩, fun i hi => ?_⟩, HB.out⟩
 ·replace hu : (Bv (Ai [Ds, Ds, Ds] i) ⟨.slice none 0 0, .slice none 0 0, .slice none 0 0, .slice none 0 0⟩)[j]? = some u := hu
  rw [hz i hi] at hu
  have hj : j < 7 := by
   rcases Nat.lt_or_ge j 7 with h | h
   ·exact h
   ·rw [List.getElem?_eq_none (by simpa [Bv] using h)] at hu; cases hu
  have h1 : i = 0 ∨ i = 1 ∨ i = 2 := by have : i < 3 := hi; omega
  have h2 : j = 0 ∨ j = 1 ∨ j = 2 ∨ j = 3 ∨ j = 4 ∨ j = 5 ∨ j = 6 := by omega
  rcases h1 with rfl | rfl | rfl <;> rcases h2 with rfl | rfl | rfl | rfl | rfl | rfl | rfl <;> (cases hu; exact Aa HZ.out rfl)
 ·rw [hz i hi]; exact Eb _ _
theorem Ww.step {K : Nat} {w w' : World} {l : List An} {a : Ac} {v : Value} {S : Nat → Prop} (hd : Ww K w w' (DN l a) (En l a) (LI l a)) (hK : w.heap[K]? = some (.cells #[v, .bool false] 145 (0, 0))) (h : AE S w v l) (hc : By l) :
  ∃ v', w'.heap[K]? = some (.cells #[v', .bool (Ff l a)] 145 (0, 0)) ∧ Aq (fun b => b = K) w w' ∧ AE (fun b => S b ∨ w.heap.size ≤ b) w' v' (DV l a) := by
 by_cases he : DN l a = 0
 ·obtain ⟨hu, v', h1, F, hO, hF⟩ := hd.2 he
  have e1 : Ff l a = LI l a := by unfold Ff; rw [if_pos he]
  have e2 : DV l a = En l a := by unfold DV; rw [if_pos he]
  rw [e1, e2]
  exact ⟨v', h1, hu, hO.reps (by rw [(Ox hc he).len]; omega) (fun b hb => .inr (hF b hb)) (fun b hb => .inr (hO.block hb).1)⟩
 ·have hb := hd.1 he
  have e1 : Ff l a = false := by unfold Ff; rw [if_neg he]
  have e2 : DV l a = l := by unfold DV; rw [if_neg he]
  rw [e1, e2]
  have hu := FA hb
  exact ⟨v, (hb.block _ (lt_of_block hK)).trans hK, ⟨hu.os, hu.tape, hu.output, hu.size, fun b hb _ => hu.block b hb id⟩, (h.below hb).weaken fun b hb => .inl hb⟩
structure JK (B D : Nat) (w : World) (s : List Ac) (k : Nat) (tv dv : Value) : Prop where
 box : ∃ v, w.heap[D]? = some (.cells #[v] 66 (0, 0)) ∧ AE (fun b => B ≤ b ∧ b ≠ D ∧ tv.ownBlock ≠ some b ∧ dv.ownBlock ≠ some b) w v (CV s k)
 told : w.ownsRow B 4 1 tv k ((Ft s k).map .bool)
 done : w.ownsRow B 33 1 dv k ((EH s k).map (.int .i64))
 apart : ∀ g, tv.ownBlock = some g → dv.ownBlock ≠ some g
theorem JK.below {B D : Nat} {w w' : World} {s : List Ac} {k : Nat} {tv dv : Value} (h : JK B D w s k tv dv) (hb : Below w.heap.size w w') : JK B D w' s k tv dv := by
 obtain ⟨⟨v, h1, h2⟩, h3, h4, h5⟩ := h
 exact ⟨⟨v, Al h1 hb, h2.below hb⟩, AS h3 hb, AS h4 hb, h5⟩
theorem JK.next {B D : Nat} {w3 w4 w5 w6 : World} {s : List Ac} {k : Nat} {tv dv tv' dv' v' : Value} (h : JK B D w3 s k tv dv)
  (hv : AE (fun b => (B ≤ b ∧ b ≠ D ∧ tv.ownBlock ≠ some b ∧ dv.ownBlock ≠ some b) ∧ b < w3.heap.size) w3 v' (CV s (k + 1)))
  (h4 : Aq (fun b => b = D) w3 w4) (hD : w4.heap[D]? = some (.cells #[v'] 66 (0, 0)))
  (h5 : Aq (fun b => tv.ownBlock = some b) w4 w5) (ht : w5.ownsRow B 4 1 tv' (k + 1) ((Ft s (k + 1)).map .bool)) (hta : tv'.ownBlock = tv.ownBlock ∨ tv'.ownBlock = some (w4.heap.size + 1))
  (h6 : Aq (fun b => dv.ownBlock = some b) w5 w6) (hd : w6.ownsRow B 33 1 dv' (k + 1) ((EH s (k + 1)).map (.int .i64))) (hda : dv'.ownBlock = dv.ownBlock ∨ dv'.ownBlock = some (w5.heap.size + 1)) :
  JK B D w6 s (k + 1) tv' dv' := by
 obtain ⟨⟨v, b1, b2⟩, ht0, hd0, hap⟩ := h
 have z4 := h4.size
 have z5 := h5.size
 have z6 := h6.size
 have hDl : D < w3.heap.size := lt_of_block b1
 have ntD : tv.ownBlock ≠ some D := Ex ht0 b1 (by decide)
 have ndD : dv.ownBlock ≠ some D := Ex hd0 b1 (by decide)
 have tlt : ∀ g, tv'.ownBlock = some g → g < w5.heap.size := fun g hg => (ht.lt g hg).2
 have told : ∀ g, tv.ownBlock = some g → g < w3.heap.size := fun g hg => (ht0.lt g hg).2
 have dlt : ∀ g, dv.ownBlock = some g → g < w3.heap.size := fun g hg => (hd0.lt g hg).2
 have hap1 : ∀ g, tv'.ownBlock = some g → dv.ownBlock ≠ some g := fun g hg e => by
  rcases hta with h | h
  ·exact hap g (h ▸ hg) e
  ·have e1 : w4.heap.size + 1 = g := by rw [h] at hg; exact Option.some.inj hg
   have := dlt g e; omega
 refine ⟨⟨v', h6.blk (h5.blk hD ntD) ndD, ?_⟩, CY ht h6 hap1, hd, fun g hg e => ?_⟩
 ·refine (((hv.upd h4 (fun b hb e => hb.1.2.1 e)).upd h5 (fun b hb e => hb.1.2.2.1 e)).upd h6 (fun b hb e => hb.1.2.2.2 e)).weaken fun b hb => ⟨hb.1.1, hb.1.2.1, fun e => ?_, fun e => ?_⟩
  ·rcases hta with h | h
   ·exact hb.1.2.2.1 (h ▸ e)
   ·have e1 : w4.heap.size + 1 = b := by rw [h] at e; exact Option.some.inj e
    have := hb.2; omega
  ·rcases hda with h | h
   ·exact hb.1.2.2.2 (h ▸ e)
   ·have e1 : w5.heap.size + 1 = b := by rw [h] at e; exact Option.some.inj e
    have := hb.2; omega
 ·rcases hda with h | h
  ·exact hap1 g hg (h ▸ e)
  ·have e1 : w5.heap.size + 1 = g := by rw [h] at e; exact Option.some.inj e
   have := tlt g hg; omega
structure RefAt (G : Nat → Prop) (B D : Nat) (w : World) (s : List Ac) (k : Nat) (tv dv : Value) : Prop where
 box : ∃ v, w.heap[D]? = some (.cells #[v] 66 (0, 0)) ∧ AE (fun b => G b ∧ b ≠ D ∧ tv.ownBlock ≠ some b ∧ dv.ownBlock ≠ some b) w v (CV s k)
 told : w.ownsRow B 4 1 tv k ((Ft s k).map .bool)
 done : w.ownsRow B 33 1 dv k ((EH s k).map (.int .i64))
 apart : ∀ g, tv.ownBlock = some g → dv.ownBlock ≠ some g
theorem RefAt.below {G : Nat → Prop} {B D : Nat} {w w' : World} {s : List Ac} {k : Nat} {tv dv : Value} (h : RefAt G B D w s k tv dv) (hb : Below w.heap.size w w') : RefAt G B D w' s k tv dv := by
 obtain ⟨⟨v, h1, h2⟩, h3, h4, h5⟩ := h
 exact ⟨⟨v, Al h1 hb, h2.below hb⟩, AS h3 hb, AS h4 hb, h5⟩
theorem RefAt.next {G : Nat → Prop} {B D : Nat} {w3 w4 w5 w6 : World} {s : List Ac} {k : Nat} {tv dv tv' dv' v' : Value} (h : RefAt G B D w3 s k tv dv)
  (hv : AE (fun b => (G b ∧ b ≠ D ∧ tv.ownBlock ≠ some b ∧ dv.ownBlock ≠ some b) ∧ b < w3.heap.size) w3 v' (CV s (k + 1)))
  (h4 : Aq (fun b => b = D) w3 w4) (hD : w4.heap[D]? = some (.cells #[v'] 66 (0, 0)))
  (h5 : Aq (fun b => tv.ownBlock = some b) w4 w5) (ht : w5.ownsRow B 4 1 tv' (k + 1) ((Ft s (k + 1)).map .bool)) (hta : tv'.ownBlock = tv.ownBlock ∨ tv'.ownBlock = some (w4.heap.size + 1))
  (h6 : Aq (fun b => dv.ownBlock = some b) w5 w6) (hd : w6.ownsRow B 33 1 dv' (k + 1) ((EH s (k + 1)).map (.int .i64))) (hda : dv'.ownBlock = dv.ownBlock ∨ dv'.ownBlock = some (w5.heap.size + 1)) :
  RefAt G B D w6 s (k + 1) tv' dv' := by
 obtain ⟨⟨v, b1, b2⟩, ht0, hd0, hap⟩ := h
 have z4 := h4.size
 have z5 := h5.size
 have z6 := h6.size
 have hDl : D < w3.heap.size := lt_of_block b1
 have ntD : tv.ownBlock ≠ some D := Ex ht0 b1 (by decide)
 have ndD : dv.ownBlock ≠ some D := Ex hd0 b1 (by decide)
 have tlt : ∀ g, tv'.ownBlock = some g → g < w5.heap.size := fun g hg => (ht.lt g hg).2
 have told : ∀ g, tv.ownBlock = some g → g < w3.heap.size := fun g hg => (ht0.lt g hg).2
 have dlt : ∀ g, dv.ownBlock = some g → g < w3.heap.size := fun g hg => (hd0.lt g hg).2
 have hap1 : ∀ g, tv'.ownBlock = some g → dv.ownBlock ≠ some g := fun g hg e => by
  rcases hta with h | h
  ·exact hap g (h ▸ hg) e
  ·have e1 : w4.heap.size + 1 = g := by rw [h] at hg; exact Option.some.inj hg
   have := dlt g e; omega
 refine ⟨⟨v', h6.blk (h5.blk hD ntD) ndD, ?_⟩, CY ht h6 hap1, hd, fun g hg e => ?_⟩
 ·refine (((hv.upd h4 (fun b hb e => hb.1.2.1 e)).upd h5 (fun b hb e => hb.1.2.2.1 e)).upd h6 (fun b hb e => hb.1.2.2.2 e)).weaken fun b hb => ⟨hb.1.1, hb.1.2.1, fun e => ?_, fun e => ?_⟩
  ·rcases hta with h | h
   ·exact hb.1.2.2.1 (h ▸ e)
   ·have e1 : w4.heap.size + 1 = b := by rw [h] at e; exact Option.some.inj e
    have := hb.2; omega
  ·rcases hda with h | h
   ·exact hb.1.2.2.2 (h ▸ e)
   ·have e1 : w5.heap.size + 1 = b := by rw [h] at e; exact Option.some.inj e
    have := hb.2; omega
 ·rcases hda with h | h
  ·exact hap1 g hg (h ▸ e)
  ·have e1 : w5.heap.size + 1 = g := by rw [h] at e; exact Option.some.inj e
   have := tlt g hg; omega
def Kf (s : List Ac) : Nat := if s.length ≤ 12 then s.length else 0
def Nx (s : List Ac) : List An := if s.length ≤ 12 then CV s s.length else []
def OZ (s : List Ac) : Int := if s.length ≤ 12 then 0 else 2
structure Yt (B : Nat) (w : World) (s : List Ac) (v tv dv : Value) : Prop where
 clu : AE (fun b => B ≤ b) w v (Nx s)
 told : w.ownsRow B 4 1 tv (Kf s) ((Ft s (Kf s)).map .bool)
 done : w.ownsRow B 33 1 dv (Kf s) ((EH s (Kf s)).map (.int .i64))
theorem Lo (s : List Ac) (sv : Value) (S : Nat → Prop) (w : World) (h : FC S w sv s) (ht : QY w) :
  Calls Tryz.prog 44 #[sv] w fun e w' => ∃ v tv dv, e = .returned (.tuple #[.agg #[v], tv, dv, .int .i64 (OZ s)]) ∧ Yt w.heap.size w' s v tv dv ∧ Below w.heap.size w w' := by
 obtain ⟨a, n, cap, fr, HN, rfl, _, _, h3, h4, h5⟩ := h.open
 have HTw := zh ht
 have H4 := zh h4
 have H5 := zh h5
 clear h h4 h5 ht
 obtain ⟨R, hR, hR1, HB0⟩ := AL w [.cells #[.slice none 0 0] 66]
 simp only [List.foldl] at hR1
 have hRb := hR.below
 have hRn := hR.next
 have HZ := zh (fun x (hx : In R x) => show x.heap[w.heap.size]? = some (.cells #[.slice none 0 0] 66 (0, 0)) from HB0 x hx 0 _ rfl)
 clear HB0
 have HN2 := zh (show Kf s = if n ≤ 12 then n else 0 by rw [HN.out]; rfl)
 have HC2 := zh (show Nx s = if n ≤ 12 then CV s n else [] by rw [HN.out]; rfl)
 have HW2 := zh (show OZ s = if n ≤ 12 then 0 else 2 by rw [HN.out]; rfl)
 have hsz5 : (w.alloc (.cells #[.slice none 0 0] 66)).heap.size = w.heap.size + 1 := by simp
 by_cases hn : n ≤ 12
 case neg =>
  rw [if_neg hn] at HN2 HC2 HW2
  have q1 : (12 : Int) < (n : Int) := by omega
  have HZW := zh (HZ.out _ hR1)
  have HBW := zh (hRb _ hR1)
  have gz := Aa (j := 0) HZW.out rfl
  have fz := Ab (j := 0) HZW.out
  go_enter Tryz.func44, Tryz.ntmps44
  go_wp2_with fail
  refine bodyPost_ret (v := .tuple #[.agg #[.slice none 0 0], .slice none 0 0, .slice none 0 0, .int .i64 2]) (by simp [results, Tryz.results44, go_sem] <;> rfl) rfl ?_
  refine ⟨_, _, _, by rw [HW2.out], ⟨by rw [HC2.out]; exact AE.nil _ _ _ _ (by omega), by rw [HN2.out]; exact World.ownsRow_nil _ _ _ _, by rw [HN2.out]; exact World.ownsRow_nil _ _ _ _⟩, HBW.out⟩
 rw [if_pos hn] at HN2 HC2 HW2
 have q1 : ¬ (12 : Int) < (n : Int) := by omega
 obtain ⟨x5, hx5⟩ : ∃ x5, x5 = (w.alloc (.cells #[.slice none 0 0] 66)) := ⟨_, rfl⟩
 rw [← hx5] at hR1 hsz5
 have Hx5 := zh hx5
 clear hx5
 obtain ⟨Q, hQ, hQ1, hQu⟩ := Ej x5
 have hQb := hQ.below
 have hQn := hQ.next
 have HQu := zh hQu
 clear hQu
 have HQR := zh (fun x (hx : In Q x) => hRn _ _ hR1 (hQb _ hx))
 have Hs5 := zh hsz5
 clear hsz5
 go_enter Tryz.func44, Tryz.ntmps44
 go_upto_region 3 with fail
 rw [← Hx5.out]
 go_wp2_with fail
 refine (RP _).mono ?_
 rintro e z1 ⟨v1, rfl, hv, hb1⟩
 obtain ⟨a1, c1, rfl⟩ := hv.vshape
 replace hv : AE (fun b => x5.heap.size ≤ b) z1 (.slice a1 3 c1) Pe := hv
 have hC1 := hQn _ _ hQ1 hb1
 have hz1 := (hQb _ hC1).size
 have hbA : Below z1.heap.size z1 (z1.alloc (.cells #[.slice a1 3 c1] 66)) := bal
 have hQ9 := hQn _ _ hC1 hbA
 have hb9 := heap_alloc_new z1 (.cells #[.slice a1 3 c1] 66)
 have hv9 := (hv.low.below hbA).weaken (S' := fun b => x5.heap.size ≤ b ∧ b ≠ z1.heap.size) fun b hb => ⟨hb.1, by omega⟩
 have hD9 := hz1
 have Hb9 := zh hb9
 have Hv9 := zh hv9
 clear hb9 hv9 hv hb1 hbA hz1 hC1
 obtain ⟨y9, hy9⟩ : ∃ y9, y9 = (z1.alloc (.cells #[.slice a1 3 c1] 66)) := ⟨_, rfl⟩
 have Hy9 := zh hy9
 rw [← hy9] at Hb9 Hv9 hQ9
 obtain ⟨D, hD⟩ : ∃ D, D = z1.heap.size := ⟨_, rfl⟩
 have HDz := zh hD
 rw [← hD] at Hb9 Hv9 hD9
 clear hD hy9
 go_upto_region 7 with fail
 rw [← Hy9.out]
 rw [← HDz.out]
 clear Hy9 HDz
 have HD9 := zh hD9
 have HA0 : JK x5.heap.size D y9 s 0 (.slice none 0 0) (.slice none 0 0) := ⟨⟨_, Hb9.out, Hv9.out.weaken fun b hb => ⟨hb.1, hb.2, by simp [Value.ownBlock], by simp [Value.ownBlock]⟩⟩, World.ownsRow_nil _ _ _ _, World.ownsRow_nil _ _ _ _, fun g hg => by simp [Value.ownBlock] at hg⟩
 have HA0 := zh HA0
 clear Hb9 Hv9 hD9
 go_loopw [7, 8, 20] (fun s7 s8 i wr => ∃ (k : Nat) (t9 d9 : Value), k ≤ n ∧ i = .int .i64 k ∧ t9 = s7 ∧ d9 = s8 ∧ In Q wr ∧ Hid (JK x5.heap.size D wr s k t9 d9)) (fun _ _ i _ => n - (intOf i).toNat)
 case atStart => exact ⟨0, _, _, Nat.zero_le _, rfl, rfl, rfl, hQ9, HA0⟩
 obtain ⟨k, t9, d9, hk, rfl, rfl, rfl, hQr, HA⟩ := hrel
 obtain ⟨wo, rfl⟩ : ∃ wo : World, wo = wr := ⟨_, rfl⟩
 clear HA0 hQ9
 by_cases hlt : k < n
 case neg =>
  obtain rfl : k = n := by omega
  obtain ⟨v2, hbx, hrv⟩ := HA.out.box
  obtain ⟨a2, c2, rfl⟩ := hrv.vshape
  have hl3 := (Dq s k).len
  rw [hl3] at hbx hrv
  have x0 := Aa (j := 0) hbx rfl
  have HZW := zh (HZ.out _ (HQR.out _ hQr))
  have HBW := zh (hRb _ (HQR.out _ hQr))
  have gz := Aa (j := 0) HZW.out rfl
  have fz := Ab (j := 0) HZW.out
  have Hrv := zh hrv
  clear hrv hbx
  go_wp2_with fail
  have hu5 : Aq (fun b => b = w.heap.size) wo (wo.setCell ⟨w.heap.size, 0, none⟩ (.slice a2 3 c2)) := (Aq.refl (fun b => b = w.heap.size) wo).setCell (p := ⟨w.heap.size, 0, none⟩) (fun _ => rfl) _
  have hk5 : (wo.setCell ⟨w.heap.size, 0, none⟩ (.slice a2 3 c2)).heap[w.heap.size]? = some (.cells #[.slice a2 3 c2] 66 (0, 0)) := Ad (j := 0) HZW.out (.slice a2 3 c2)
  have hB5 := HBW.out.trans (hu5.below (B := w.heap.size) HBW.out.size (fun b hb => by have e2 : b = w.heap.size := hb; omega))
  generalize wo.setCell ⟨w.heap.size, 0, none⟩ (.slice a2 3 c2) = y5 at *
  have k0 := Aa (j := 0) hk5 rfl
  refine bodyPost_ret (v := .tuple #[.agg #[.slice a2 3 c2], t9, d9, .int .i64 0]) (by simp [results, Tryz.results44, go_sem]; simp [k0] <;> rfl) rfl ?_
  have hs5 := Hs5.out
  refine ⟨_, _, _, by rw [HW2.out], ⟨by rw [HC2.out]; exact (Hrv.out.upd hu5 (fun b hb e => by have e2 : b = w.heap.size := e; have := hb.1; omega)).weaken (fun b hb => by have := hb.1; omega), ?_, ?_⟩, hB5⟩
  ·rw [HN2.out]; exact Gt (CY HA.out.told hu5 (fun g hg e => by have e2 : g = w.heap.size := e; have := (HA.out.told.lt g hg).1; omega)) (by omega)
  ·rw [HN2.out]; exact Gt (CY HA.out.done hu5 (fun g hg e => by have e2 : g = w.heap.size := e; have := (HA.out.done.lt g hg).1; omega)) (by omega)
 obtain ⟨b0, off0, rfl, _, k0, k1, k2, k3, k4, k5, k6⟩ := H4.out (by omega)
 have e0 := k0 k wo hlt (hRb _ (HQR.out _ hQr))
 have e1 := k1 k wo hlt (hRb _ (HQR.out _ hQr))
 have e2 := k2 k wo hlt (hRb _ (HQR.out _ hQr))
 have e3 := k3 k wo hlt (hRb _ (HQR.out _ hQr))
 have e4 := k4 k wo hlt (hRb _ (HQR.out _ hQr))
 have e5 := k5 k wo hlt (hRb _ (HQR.out _ hQr))
 have e6 := k6 k wo hlt (hRb _ (HQR.out _ hQr))
 clear k0 k1 k2 k3 k4 k5 k6
 have hj1 : (0 : Int) ≤ (k : Int) := by omega
 have hj2 : (k : Int) < (n : Int) := by omega
 have HAc := zh ((H5.out k hlt).below (hRb _ (HQR.out _ hQr)))
 have hX := hQ.alloc _ (.cells #[.int .i64 (ac s k).kind, .int .i64 (ac s k).on, .int .i64 (ac s k).up, .int .i64 (ac s k).late, .slice (fr k).oa (ac s k).push.objects.length (fr k).oc, .slice (fr k).ua (ac s k).push.updates.length (fr k).uc, .bool (ac s k).push.force] 68) hQr
 have HU := zh (heap_alloc_new wo (.cells #[.int .i64 (ac s k).kind, .int .i64 (ac s k).on, .int .i64 (ac s k).up, .int .i64 (ac s k).late, .slice (fr k).oa (ac s k).push.objects.length (fr k).oc, .slice (fr k).ua (ac s k).push.updates.length (fr k).uc, .bool (ac s k).push.force] 68))
 have hbX : Below wo.heap.size wo (wo.alloc (.cells #[.int .i64 (ac s k).kind, .int .i64 (ac s k).on, .int .i64 (ac s k).up, .int .i64 (ac s k).late, .slice (fr k).oa (ac s k).push.objects.length (fr k).oc, .slice (fr k).ua (ac s k).push.updates.length (fr k).uc, .bool (ac s k).push.force] 68)) := bal
 have HAu := zh (HA.out.below hbX)
 have HAcu := zh (HAc.out.below hbX)
 clear hbX HA HAc hQr
 go_upto_region 9 with fail
 generalize wo.alloc (.cells #[.int .i64 (ac s k).kind, .int .i64 (ac s k).on, .int .i64 (ac s k).up, .int .i64 (ac s k).late, .slice (fr k).oa (ac s k).push.objects.length (fr k).oc, .slice (fr k).ua (ac s k).push.updates.length (fr k).uc, .bool (ac s k).push.force] 68) = wu at *
 generalize wo.heap.size = U at *
 clear e0 e1 e2 e3 e4 e5 e6
 obtain ⟨v2, hbx, hrv⟩ := HAu.out.box
 obtain ⟨a2, c2, rfl⟩ := hrv.vshape
 have hl3 := (Dq s k).len
 rw [hl3] at hbx hrv
 have x0 := Aa (j := 0) hbx rfl
 have HK0 := zh (heap_alloc_new wu (.cells #[.slice a2 3 c2, .bool false] 145))
 have hbK : Below wu.heap.size wu (wu.alloc (.cells #[.slice a2 3 c2, .bool false] 145)) := bal
 have hQk := hQn _ _ hX hbK
 have HAck := zh (HAcu.out.below hbK)
 have Hrk := zh (hrv.below hbK)
 have HUk := zh (Al HU.out hbK)
 have Hbk := zh (Al hbx hbK)
 have hDl : D < wu.heap.size := lt_of_block hbx
 have hxu := (hQb _ hX).size
 have HDo := zh (Lq wu.heap.size a2 c2 (CV s k) (ac s k) _ _ _ _ (wu.alloc (.cells #[.slice a2 3 c2, .bool false] 145)) HK0.out Hrk.out (Dq s k) HAck.out (HTw.out.below (hRb _ (HQR.out _ hQk))))
 simp only [KJ] at HDo
 have b0 := Aa (j := 0) HUk.out rfl
 have b1 := Aa (j := 1) HUk.out rfl
 have b2 := Aa (j := 2) HUk.out rfl
 have b3 := Aa (j := 3) HUk.out rfl
 have b4 := Aa (j := 4) HUk.out rfl
 have b5 := Aa (j := 5) HUk.out rfl
 have b6 := Aa (j := 6) HUk.out rfl
 have Hrv := zh hrv
 clear hrv hbx HU
 go_wp2_with fail
 refine HDo.out.mono ?_
 rintro e w3 ⟨rfl, hdn⟩
 clear HDo x0 b0 b1 b2 b3 b4 b5 b6
 obtain ⟨v3, hk3, hu3, hv3⟩ := hdn.step HK0.out Hrk.out (Dq s k)
 obtain ⟨a3, c3, rfl⟩ := hv3.vshape
 have hl4 := (Ns (a := ac s k) (Dq s k)).len
 rw [hl4] at hk3 hv3
 have hkz : (wu.alloc (.cells #[.slice a2 3 c2, .bool false] 145)).heap.size = wu.heap.size + 1 := by simp
 have hB3 : Below wu.heap.size wu w3 := hbK.trans (hu3.below (B := wu.heap.size) (by omega) (fun b hb => by have e2 : b = wu.heap.size := hb; omega))
 have HA3 := zh (HAu.out.below hB3)
 have hbD3 := hu3.blk Hbk.out (fun e => by have e2 : D = wu.heap.size := e; omega)
 have hQ3 := HQu.out _ _ _ hQk hu3 (fun b hb => by have e2 : b = wu.heap.size := hb; omega)
 have HV3 := zh ((hv3.low).weaken (S' := fun b => (x5.heap.size ≤ b ∧ b ≠ D ∧ t9.ownBlock ≠ some b ∧ d9.ownBlock ≠ some b) ∧ b < w3.heap.size) fun b hb => ⟨hb.1.elim id (fun h => ⟨by omega, by omega, fun e => by have := (HAu.out.told.lt b e).2; omega, fun e => by have := (HAu.out.done.lt b e).2; omega⟩), hb.2⟩)
 have Hk3 := zh hk3
 have HD3 := zh hbD3
 have hKD : wu.heap.size ≠ D := by omega
 have hK3l : wu.heap.size < w3.heap.size := lt_of_block hk3
 clear hv3 hdn hu3 HK0 Hrk HAck HUk Hbk hbK hB3 hQk hX HAu HAcu Hrv hkz
 generalize wu.heap.size = K at *
 have x0 := Aa (j := 0) Hk3.out rfl
 have gz := Aa (j := 0) HD3.out rfl
 have fz := Ab (j := 0) HD3.out
 generalize htb : Ff (CV s k) (ac s k) = tb at *
 generalize hte : DN (CV s k) (ac s k) = te at *
 go_upto_region 12 with fail
 have hu4 : Aq (fun b => b = D) w3 (w3.setCell ⟨D, 0, none⟩ (.slice a3 3 c3)) := (Aq.refl (fun b => b = D) w3).setCell (p := ⟨D, 0, none⟩) (fun _ => rfl) _
 have hD4 : (w3.setCell ⟨D, 0, none⟩ (.slice a3 3 c3)).heap[D]? = some (.cells #[.slice a3 3 c3] 66 (0, 0)) := Ad (j := 0) HD3.out (.slice a3 3 c3)
 have x1 := hu4.cell (Aa (j := 1) Hk3.out rfl) hKD
 have hQ4 := HQu.out _ _ _ hQ3 hu4 (fun b hb => by have e2 : b = D := hb; have := HD9.out; omega)
 have ntD : t9.ownBlock ≠ some D := Ex HA3.out.told HD3.out (by decide)
 have ndD : d9.ownBlock ≠ some D := Ex HA3.out.done HD3.out (by decide)
 have HT4 := zh (CY HA3.out.told hu4 (fun g hg e => ntD (by have e2 : g = D := e; rw [hg, e2])))
 have HO4 := zh (CY HA3.out.done hu4 (fun g hg e => ndD (by have e2 : g = D := e; rw [hg, e2])))
 have hB4 := (hQb _ hQ4).size
 have Hu4 := zh hu4
 have HD4 := zh hD4
 clear hu4 hD4 x0 gz fz ntD ndD hQ3
 generalize (w3.setCell ⟨D, 0, none⟩ (.slice a3 3 c3)) = w4 at *
 go_wp2_with (at_builtin; refine Ed (z := tb) rfl _ _ rfl HT4.out (by omega) hB4 rfl rfl (by first | rfl | simp) ?_)
 intro tv w5 ht5 hu5 hta
 have HO5 := zh (CY HO4.out hu5 (fun g hg e => HA3.out.apart g e hg))
 have hQ5 := HQu.out _ _ _ hQ4 hu5 (fun b hb => (HT4.out.lt b hb).1)
 have hB5 := (hQb _ hQ5).size
 have Ht5 := zh ht5
 have Hu5 := zh hu5
 have Hta := zh hta
 clear ht5 hu5 hta x1
 go_wp2_with (at_builtin; refine EA (z := te) rfl _ _ rfl HO5.out (by omega) hB5 rfl rfl (by first | rfl | simp) ?_)
 intro dv w6 hd6 hu6 hda
 have hQ6 := HQu.out _ _ _ hQ5 hu6 (fun b hb => (HO5.out.lt b hb).1)
 have HA6 := zh (show JK x5.heap.size D w6 s (k + 1) tv dv from HA3.out.next HV3.out Hu4.out HD4.out Hu5.out (by rw [show (Ft s (k + 1)).map Value.bool = (Ft s k).map Value.bool ++ [.bool tb] from by rw [← htb, Ft, List.map_append]; rfl]; exact Ht5.out) Hta.out hu6 (by rw [show (EH s (k + 1)).map (Value.int .i64) = (EH s k).map (Value.int .i64) ++ [.int .i64 te] from by rw [← hte, EH, List.map_append]; rfl]; exact hd6) hda)
 go_wp2_with fail
 go_roundw
 case rel => exact ⟨k + 1, _, _, by omega, by go_num, rfl, rfl, hQ6, HA6⟩
 case measure => simp [intOf]; omega
end Go.Proofs.YtjdgpgfiomnjkaaGreatDoor
