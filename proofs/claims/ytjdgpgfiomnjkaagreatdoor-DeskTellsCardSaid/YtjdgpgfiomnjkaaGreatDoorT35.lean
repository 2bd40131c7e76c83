/- DeskF: walk of the reference's DoOf. -/
import Derived.Test.YtjdgpgfiomnjkaaGreatDoorT32
import Derived.Test.YtjdgpgfiomnjkaaGreatDoorT33
import Derived.Test.YtjdgpgfiomnjkaaGreatDoorT34
set_option linter.all false
set_option maxHeartbeats 32000000
set_option maxRecDepth 100000
namespace Go.Proofs.YtjdgpgfiomnjkaaGreatDoor
open Go.RowKit
theorem SE (p : BJ) : Fo p CX = BK p := by
 cases h : BK p
 ·cases h2 : Fo p CX
  ·rfl
  ·rw [(Fa _ _).1 h2] at h; cases h
 ·rw [Fa]
  obtain ⟨o, u, f⟩ := p
  unfold BK at h
  simp only [Bool.and_eq_true, decide_eq_true_eq, Bool.not_eq_true', List.length_eq_zero_iff] at h
  obtain ⟨⟨h1, h2⟩, h3⟩ := h
  subst h1 h2 h3
  rfl
def Gk (l : List An) (a : Ac) : List An := if Di l a = 0 then Ej l a else []
def JP (l : List An) (a : Ac) : Bool := if Di l a = 0 then LU l a else false
@[reducible] def dST (D5 g c4 : Nat) (w : World) (bk off0 cap i : Nat) (fr : Nat → RA) (l : List An) : World → Prop := fun x : World => x.cell? ⟨D5, 0, none⟩ = some (.slice (some ⟨g, 0, none⟩) 3 c4) ∧ x.cell? ⟨w.heap.size, 0, none⟩ = some (.slice (some ⟨bk, off0, none⟩) 3 cap) ∧ x.cell? ⟨w.heap.size + 1, 1, none⟩ = some (.int .i64 (i : Int)) ∧ (x.cell? ⟨bk, off0 + i * 7, none⟩ = some (.slice (fr i).sa (Af l i).store.length (fr i).sc) ∧ x.cell? ⟨bk, off0 + i * 7 + 1, none⟩ = some (.slice (fr i).ra (Af l i).refs.length (fr i).rc) ∧ x.cell? ⟨bk, off0 + i * 7 + 2, none⟩ = some (.int .i64 (Af l i).gen) ∧ x.cell? ⟨bk, off0 + i * 7 + 3, none⟩ = some (.int .i64 (Af l i).phase) ∧ x.cell? ⟨bk, off0 + i * 7 + 4, none⟩ = some (.slice (fr i).oa (Af l i).pend.objects.length (fr i).oc) ∧ x.cell? ⟨bk, off0 + i * 7 + 5, none⟩ = some (.slice (fr i).ua (Af l i).pend.updates.length (fr i).uc) ∧ x.cell? ⟨bk, off0 + i * 7 + 6, none⟩ = some (.bool (Af l i).pend.force))
theorem VI (l : List An) (a : Ac) (cv ov uv : Value) (S S1 : Nat → Prop) (w : World) (h : AJ S w cv l) (hc : Be l) (ha : Eu S1 w a ov uv) :
    Calls Tryz.prog 41 #[.agg #[cv], Jh a ov uv] w fun e w' => ∃ v', e = .returned (.tuple #[.agg #[v'], .bool (JP l a), .int .i64 (Di l a)]) ∧ AJ (fun b => (S b ∨ S1 b) ∨ w.heap.size ≤ b) w' v' (Gk l a) ∧ Below w.heap.size w w' := by
  have HC := zh hc
  have hl3 := hc.len
  obtain ⟨A, hA⟩ : ∃ A : Nat → Prop, A = fun b => S b ∨ S1 b := ⟨_, rfl⟩
  have H := zh (h.low.weaken (S' := fun b => A b ∧ b < w.heap.size) fun b hb => by rw [hA]; exact ⟨.inl hb.1, hb.2⟩)
  have HA := zh (show Eu (fun b => A b ∧ b < w.heap.size) w a ov uv from ⟨ha.objs.lt.weaken fun b hb => by rw [hA]; exact ⟨.inr hb.1, hb.2⟩, ha.upds.lt.weaken fun b hb => by rw [hA]; exact ⟨.inr hb.1, hb.2⟩, ha.kind, ha.on, ha.up, ha.late⟩)
  rw [show (fun b => (S b ∨ S1 b) ∨ w.heap.size ≤ b) = (fun b => A b ∨ w.heap.size ≤ b) by rw [hA]]
  obtain ⟨oa, oc, rfl⟩ := ha.objs.vshape
  obtain ⟨⟨ua, uc⟩, rfl⟩ := ha.upds.shape
  obtain ⟨a0, n, cap, fr, HN0, rfl, _, _, _, h4, h5⟩ := H.out.open
  obtain rfl : n = 3 := HN0.out.trans hl3
  obtain ⟨bk, off0, rfl, hb0, k0, k1, k2, k3, k4, k5, k6⟩ := h4 (by omega)
  have Hk := zh (And.intro k0 (And.intro k1 (And.intro k2 (And.intro k3 (And.intro k4 (And.intro k5 k6))))))
  have H5 := zh h5
  have HL3 := zh hl3
  clear h h4 h5 hc ha HN0 hA hl3 k0 k1 k2 k3 k4 k5 k6
  obtain ⟨R, hR, hR1, HB0⟩ := AI w [.cells #[.slice (some ⟨bk, off0, none⟩) 3 cap] 66, .cells #[.int .i64 a.kind, .int .i64 a.on, .int .i64 a.up, .int .i64 a.late, .slice oa a.push.objects.length oc, .slice ua a.push.updates.length uc, .bool a.push.force] 68, .cells #[.slice none 0 0] 66]
  simp only [List.foldl] at hR1
  have hRb := hR.below
  have hRn := hR.next
  have c0 := fun x (hx : In R x) => Aa (j := 0) (HB0 x hx 0 _ rfl) rfl
  have a0 := fun x (hx : In R x) => Aa (j := 0) (HB0 x hx 1 _ rfl) rfl
  have a1 := fun x (hx : In R x) => Aa (j := 1) (HB0 x hx 1 _ rfl) rfl
  have a2 := fun x (hx : In R x) => Aa (j := 2) (HB0 x hx 1 _ rfl) rfl
  have a3 := fun x (hx : In R x) => Aa (j := 3) (HB0 x hx 1 _ rfl) rfl
  have a4 := fun x (hx : In R x) => Aa (j := 4) (HB0 x hx 1 _ rfl) rfl
  have a5 := fun x (hx : In R x) => Aa (j := 5) (HB0 x hx 1 _ rfl) rfl
  have a6 := fun x (hx : In R x) => Aa (j := 6) (HB0 x hx 1 _ rfl) rfl
  simp only [Nat.add_zero] at c0
  have HZ := zh (fun x (hx : In R x) => show x.heap[w.heap.size + 2]? = some (.cells #[.slice none 0 0] 66 (0, 0)) from HB0 x hx 2 _ rfl)
  have HSz := zh (fun x (hx : In R x) => show w.heap.size + 3 ≤ x.heap.size from lt_of_block (HB0 x hx 2 _ rfl))
  clear HB0
  have HF := zh (show Cn a = if a.kind < 1 ∨ 3 < a.kind then 7 else if (a.kind = 1 ∧ a.on ≠ 0) ∨ (a.kind ≠ 1 ∧ (BK a.push = false ∨ a.up ≠ 0 ∨ a.late ≠ 0)) then 1 else if a.on < 0 ∨ 3 ≤ a.on then 3 else 0 from rfl)
  have HE := zh (show Di l a = if Cn a ≠ 0 then Cn a else if a.kind = 1 then BT l a.push a.up a.late else if a.kind = 2 then BV (Af l (Co l)) (Af l a.on.toNat) else 0 from rfl)
  have HL := zh (show Ej l a = if a.kind = 1 then Bj l a.push a.up a.late else if a.kind = 2 then l.set a.on.toNat (BI (Af l (Co l)) (Af l a.on.toNat)) else l.set a.on.toNat (DD (Af l a.on.toNat)) from rfl)
  have HD := zh (show LU l a = if a.kind = 1 then CD l a.push a.up a.late else true from rfl)
  have Hdl := zh (show Gk l a = if Di l a = 0 then Ej l a else [] from rfl)
  have Hdd := zh (show JP l a = if Di l a = 0 then LU l a else false from rfl)
  have HSp := zh (fun x (hx : In R x) => GS a.push CX _ _ (.slice none 0 0) (.slice none 0 0) _ (fun _ => True) x (HA.out.objs.below (hRb _ hx)) (HA.out.upds.below (hRb _ hx)) (Ah.nil _ _ _ _ (by omega)) (AM.nil _ _ _ _ (by omega)))
  rw [SE] at HSp
  simp only [EH, show CX.force = false from rfl] at HSp
  generalize hnb : BK a.push = nb at *
  have Hnb := zh hnb
  clear hnb
  simp only [Jh]
  have b0 := a0 _ hR1
  have b1 := a1 _ hR1
  have b2 := a2 _ hR1
  have b3 := a3 _ hR1
  have hk3 : within a.kind 1 3 = true → ¬ (a.kind < 1 ∨ 3 < a.kind) := fun h => by have := Bw h; omega
  have hk4 : within a.kind 1 3 = false → (a.kind < 1 ∨ 3 < a.kind) := fun h => by have := DI h; omega
  have Hk3 := zh hk3
  have Hk4 := zh hk4
  clear hk3 hk4
  cases hw : within a.kind 1 3
  case false =>
    have HE2 := zh (show Di l a = 7 by have h0 : Cn a = 7 := (by rw [HF.out, if_pos (Hk4.out hw)]); rw [HE.out, if_pos (by rw [h0]; decide), h0])
    have HL2 := zh (show Gk l a = [] by rw [Hdl.out, HE2.out]; rfl)
    have HD2 := zh (show JP l a = false by rw [Hdd.out, HE2.out]; rfl)
    clear HE HL HD HF Hdl Hdd
    go_enter Tryz.func41, Tryz.ntmps41
    go_wp2_with fail
    generalize (((w.alloc (.cells #[.slice (some ⟨bk, off0, none⟩) 3 cap] 66)).alloc (.cells #[.int .i64 a.kind, .int .i64 a.on, .int .i64 a.up, .int .i64 a.late, .slice oa a.push.objects.length oc, .slice ua a.push.updates.length uc, .bool a.push.force] 68)).alloc (.cells #[.slice none 0 0] 66)) = w1 at *
    refine (Ao a.kind 1 3 _).mono ?_
    rintro e y1 ⟨rfl, rfl⟩
    rw [hw]
    have HZW := zh (HZ.out _ hR1)
    have HBW := zh (hRb _ hR1)
    have gz := Aa (j := 0) HZW.out rfl
    have fz := Ab (j := 0) HZW.out
    go_wp2_with fail
    have hu5 : Av (fun b => b = w.heap.size + 2) w1 (w1.setCell ⟨w.heap.size + 2, 0, none⟩ (.slice none 0 0)) := (Av.refl (fun b => b = w.heap.size + 2) w1).setCell (p := ⟨w.heap.size + 2, 0, none⟩) (fun _ => rfl) _
    have hk5 : (w1.setCell ⟨w.heap.size + 2, 0, none⟩ (.slice none 0 0)).heap[w.heap.size + 2]? = some (.cells #[.slice none 0 0] 66 (0, 0)) := Ad (j := 0) HZW.out (.slice none 0 0)
    have hB5 := HBW.out.trans (hu5.below (B := w.heap.size) HBW.out.size (fun b hb => by have e2 : b = w.heap.size + 2 := hb; omega))
    generalize w1.setCell ⟨w.heap.size + 2, 0, none⟩ (.slice none 0 0) = x5 at *
    have k0 := Aa (j := 0) hk5 rfl
    refine bodyPost_ret (v := .tuple #[.agg #[.slice none 0 0], .bool false, .int .i64 7]) (by simp [results, Tryz.results41, go_sem]; simp [k0] <;> rfl) rfl ?_
    refine ⟨_, by rw [HD2.out, HE2.out] <;> rfl, by rw [HL2.out]; exact AJ.nil _ _ _ _ (by omega), hB5⟩
  have Hk5 := zh (Hk3.out hw)
  have Hin := zh (Bw hw)
  by_cases g1 : a.kind = 1
  case pos =>
    have q1 : (a.kind == 1) = true := by simpa using g1
    have q2 : ¬ 1 < a.kind := by omega
    by_cases g4 : a.on = 0
    case neg =>
      have qo : (a.on != 0) = true := by simpa using g4
      have HE2 := zh (show Di l a = 1 by have h0 : Cn a = 1 := (by rw [HF.out, if_neg Hk5.out, if_pos (.inl ⟨g1, g4⟩)]); rw [HE.out, if_pos (by rw [h0]; decide), h0])
      have HL2 := zh (show Gk l a = [] by rw [Hdl.out, HE2.out]; rfl)
      have HD2 := zh (show JP l a = false by rw [Hdd.out, HE2.out]; rfl)
      clear HE HL HD HF Hdl Hdd
      clear g1 g4
      go_enter Tryz.func41, Tryz.ntmps41
      go_wp2_with fail
      generalize (((w.alloc (.cells #[.slice (some ⟨bk, off0, none⟩) 3 cap] 66)).alloc (.cells #[.int .i64 a.kind, .int .i64 a.on, .int .i64 a.up, .int .i64 a.late, .slice oa a.push.objects.length oc, .slice ua a.push.updates.length uc, .bool a.push.force] 68)).alloc (.cells #[.slice none 0 0] 66)) = w1 at *
      refine (Ao a.kind 1 3 _).mono ?_
      rintro e y1 ⟨rfl, rfl⟩
      rw [hw]
      have HZW := zh (HZ.out _ hR1)
      have HBW := zh (hRb _ hR1)
      have gz := Aa (j := 0) HZW.out rfl
      have fz := Ab (j := 0) HZW.out
      go_wp2_with fail
      have hu5 : Av (fun b => b = w.heap.size + 2) w1 (w1.setCell ⟨w.heap.size + 2, 0, none⟩ (.slice none 0 0)) := (Av.refl (fun b => b = w.heap.size + 2) w1).setCell (p := ⟨w.heap.size + 2, 0, none⟩) (fun _ => rfl) _
      have hk5 : (w1.setCell ⟨w.heap.size + 2, 0, none⟩ (.slice none 0 0)).heap[w.heap.size + 2]? = some (.cells #[.slice none 0 0] 66 (0, 0)) := Ad (j := 0) HZW.out (.slice none 0 0)
      have hB5 := HBW.out.trans (hu5.below (B := w.heap.size) HBW.out.size (fun b hb => by have e2 : b = w.heap.size + 2 := hb; omega))
      generalize w1.setCell ⟨w.heap.size + 2, 0, none⟩ (.slice none 0 0) = x5 at *
      have k0 := Aa (j := 0) hk5 rfl
      refine bodyPost_ret (v := .tuple #[.agg #[.slice none 0 0], .bool false, .int .i64 1]) (by simp [results, Tryz.results41, go_sem]; simp [k0] <;> rfl) rfl ?_
      refine ⟨_, by rw [HD2.out, HE2.out] <;> rfl, by rw [HL2.out]; exact AJ.nil _ _ _ _ (by omega), hB5⟩
    have qo : (a.on != 0) = false := by simpa using g4
    have Hs := zh (show ¬ ((a.kind = 1 ∧ a.on ≠ 0) ∨ (a.kind ≠ 1 ∧ (nb = false ∨ a.up ≠ 0 ∨ a.late ≠ 0))) from fun h => h.elim (fun h => h.2 g4) (fun h => h.1 g1))
    have ho : within a.on 0 2 = true := by rw [g4]; decide
    have Hon := zh (Bw ho)
    have hf0 : Cn a = 0 := by rw [HF.out, if_neg Hk5.out, if_neg Hs.out, if_neg (by have := Hon.out; omega)]
    rw [if_neg (by simpa using hf0)] at HE
    clear hf0 HF
    rw [if_pos g1] at HE HL HD
    have Hg4 := zh g4
    clear g1 g4
    have HPo := zh (fun x (hx : In R x) => RS l a.push a.up a.late _ _ _ _ _ x (H.out.below (hRb _ hx)) HC.out ⟨HA.out.objs.below (hRb _ hx), HA.out.upds.below (hRb _ hx)⟩)
    simp only [EH] at HPo
    have hls : BT l a.push a.up a.late ≠ 0 → Bj l a.push a.up a.late = [] ∧ CD l a.push a.up a.late = false := fun hne => ⟨by unfold Bj; rw [if_neg hne], by unfold CD; rw [if_neg hne]⟩
    have HE2 := HE
    have HL2 := zh (show Gk l a = Bj l a.push a.up a.late by
      rw [Hdl.out, HE.out, HL.out]
      split
      · rfl
      · rename_i hne; exact (hls hne).1.symm)
    have HD2 := zh (show JP l a = CD l a.push a.up a.late by
      rw [Hdd.out, HE.out, HD.out]
      split
      · rfl
      · rename_i hne; exact (hls hne).2.symm)
    clear hls HE HL HD Hdl Hdd
    obtain ⟨re, hre⟩ : ∃ re, re = BT l a.push a.up a.late := ⟨_, rfl⟩
    obtain ⟨rl, hrl⟩ : ∃ rl, rl = Bj l a.push a.up a.late := ⟨_, rfl⟩
    obtain ⟨rd, hrd⟩ : ∃ rd, rd = CD l a.push a.up a.late := ⟨_, rfl⟩
    rw [← hre, ← hrl, ← hrd] at HPo
    rw [← hre] at HE2
    rw [← hrl] at HL2
    rw [← hrd] at HD2
    clear hre hrl hrd
    go_enter Tryz.func41, Tryz.ntmps41
    go_wp2_with fail
    generalize (((w.alloc (.cells #[.slice (some ⟨bk, off0, none⟩) 3 cap] 66)).alloc (.cells #[.int .i64 a.kind, .int .i64 a.on, .int .i64 a.up, .int .i64 a.late, .slice oa a.push.objects.length oc, .slice ua a.push.updates.length uc, .bool a.push.force] 68)).alloc (.cells #[.slice none 0 0] 66)) = w1 at *
    refine (Ao a.kind 1 3 _).mono ?_
    rintro e y1 ⟨rfl, rfl⟩
    rw [hw]
    go_upto_region 5 with fail
    obtain ⟨w2, hw2⟩ : ∃ w2, w2 = w1 := ⟨_, rfl⟩
    rw [← hw2] at hR1 ⊢
    have hR2 := hR1
    clear hw2 b0 b1 b2 b3
    have b0 := a0 _ hR2
    have b1 := a1 _ hR2
    have b2 := a2 _ hR2
    have b3 := a3 _ hR2
    go_wp2_with fail
    refine (Ao a.on 0 2 _).mono ?_
    rintro e y1 ⟨rfl, rfl⟩
    rw [ho]
    have cc := c0 _ hR2
    have b4 := a4 _ hR2
    have b5 := a5 _ hR2
    have b6 := a6 _ hR2
    go_wp2_with fail
    refine (HPo.out _ hR2).mono ?_
    rintro e w3 ⟨v3, rfl, hv3, hb3⟩
    obtain ⟨a3, c3, rfl⟩ := hv3.vshape
    have hR3 := hRn _ _ hR2 hb3
    have hsz := HSz.out _ hR2
    have Hv3 := zh (hv3.weaken (S' := fun b => (A b ∧ b < w.heap.size) ∨ w2.heap.size ≤ b) fun b hb => by rcases hb with (h | h) | h; exact .inl h; exact .inl h; exact .inr h)
    clear hv3 hb3 cc b0 b1 b2 b3 b4 b5 b6
    have HZW := zh (HZ.out _ hR3)
    have HBW := zh (hRb _ hR3)
    have gz := Aa (j := 0) HZW.out rfl
    have fz := Ab (j := 0) HZW.out
    go_wp2_with fail
    have hu5 : Av (fun b => b = w.heap.size + 2) w3 (w3.setCell ⟨w.heap.size + 2, 0, none⟩ (.slice a3 rl.length c3)) := (Av.refl (fun b => b = w.heap.size + 2) w3).setCell (p := ⟨w.heap.size + 2, 0, none⟩) (fun _ => rfl) _
    have hk5 : (w3.setCell ⟨w.heap.size + 2, 0, none⟩ (.slice a3 rl.length c3)).heap[w.heap.size + 2]? = some (.cells #[.slice a3 rl.length c3] 66 (0, 0)) := Ad (j := 0) HZW.out (.slice a3 rl.length c3)
    have hB5 := HBW.out.trans (hu5.below (B := w.heap.size) HBW.out.size (fun b hb => by have e2 : b = w.heap.size + 2 := hb; omega))
    have hv5 := (Hv3.out.upd hu5 (fun b hb e => by have e2 : b = w.heap.size + 2 := e; rcases hb with h | h <;> omega)).weaken (S' := fun b => A b ∨ w.heap.size ≤ b) fun b hb => hb.imp (fun h => h.1) (fun h => by omega)
    generalize w3.setCell ⟨w.heap.size + 2, 0, none⟩ (.slice a3 rl.length c3) = x5 at *
    have k0 := Aa (j := 0) hk5 rfl
    refine bodyPost_ret (v := .tuple #[.agg #[.slice a3 rl.length c3], .bool rd, .int .i64 re]) (by simp [results, Tryz.results41, go_sem]; simp [k0] <;> rfl) rfl ?_
    refine ⟨_, by rw [HD2.out, HE2.out] <;> rfl, by rw [HL2.out]; exact hv5, hB5⟩
  have q1 : (a.kind == 1) = false := by simpa using g1
  have q2 : 1 < a.kind := by have := Hin.out; omega
  have Hg1 := zh g1
  cases hnn : nb
  case false =>
    subst hnn
    have HE2 := zh (show Di l a = 1 by have h0 : Cn a = 1 := (by rw [HF.out, if_neg Hk5.out, if_pos (.inr ⟨g1, .inl rfl⟩)]); rw [HE.out, if_pos (by rw [h0]; decide), h0])
    have HL2 := zh (show Gk l a = [] by rw [Hdl.out, HE2.out]; rfl)
    have HD2 := zh (show JP l a = false by rw [Hdd.out, HE2.out]; rfl)
    clear HE HL HD HF Hdl Hdd
    go_enter Tryz.func41, Tryz.ntmps41
    go_wp2_with fail
    generalize (((w.alloc (.cells #[.slice (some ⟨bk, off0, none⟩) 3 cap] 66)).alloc (.cells #[.int .i64 a.kind, .int .i64 a.on, .int .i64 a.up, .int .i64 a.late, .slice oa a.push.objects.length oc, .slice ua a.push.updates.length uc, .bool a.push.force] 68)).alloc (.cells #[.slice none 0 0] 66)) = w1 at *
    refine (Ao a.kind 1 3 _).mono ?_
    rintro e y1 ⟨rfl, rfl⟩
    rw [hw]
    have d4 := a4 _ hR1
    have d5 := a5 _ hR1
    have d6 := a6 _ hR1
    go_wp2_with fail
    refine (HSp.out _ hR1).mono ?_
    rintro e w2 ⟨rfl, hb2⟩
    have hR2 := hRn _ _ hR1 hb2
    clear hb2 b0 b1 b2 b3 d4 d5 d6
    have b0 := a0 _ hR2
    have b1 := a1 _ hR2
    have b2 := a2 _ hR2
    have b3 := a3 _ hR2
    have HZW := zh (HZ.out _ hR2)
    have HBW := zh (hRb _ hR2)
    have gz := Aa (j := 0) HZW.out rfl
    have fz := Ab (j := 0) HZW.out
    go_wp2_with fail
    have hu5 : Av (fun b => b = w.heap.size + 2) w2 (w2.setCell ⟨w.heap.size + 2, 0, none⟩ (.slice none 0 0)) := (Av.refl (fun b => b = w.heap.size + 2) w2).setCell (p := ⟨w.heap.size + 2, 0, none⟩) (fun _ => rfl) _
    have hk5 : (w2.setCell ⟨w.heap.size + 2, 0, none⟩ (.slice none 0 0)).heap[w.heap.size + 2]? = some (.cells #[.slice none 0 0] 66 (0, 0)) := Ad (j := 0) HZW.out (.slice none 0 0)
    have hB5 := HBW.out.trans (hu5.below (B := w.heap.size) HBW.out.size (fun b hb => by have e2 : b = w.heap.size + 2 := hb; omega))
    generalize w2.setCell ⟨w.heap.size + 2, 0, none⟩ (.slice none 0 0) = x5 at *
    have k0 := Aa (j := 0) hk5 rfl
    refine bodyPost_ret (v := .tuple #[.agg #[.slice none 0 0], .bool false, .int .i64 1]) (by simp [results, Tryz.results41, go_sem]; simp [k0] <;> rfl) rfl ?_
    refine ⟨_, by rw [HD2.out, HE2.out] <;> rfl, by rw [HL2.out]; exact AJ.nil _ _ _ _ (by omega), hB5⟩
  subst hnn
  by_cases g5 : a.up = 0
  case neg =>
    have qu : (a.up != 0) = true := by simpa using g5
    have HE2 := zh (show Di l a = 1 by have h0 : Cn a = 1 := (by rw [HF.out, if_neg Hk5.out, if_pos (.inr ⟨g1, .inr (.inl g5)⟩)]); rw [HE.out, if_pos (by rw [h0]; decide), h0])
    have HL2 := zh (show Gk l a = [] by rw [Hdl.out, HE2.out]; rfl)
    have HD2 := zh (show JP l a = false by rw [Hdd.out, HE2.out]; rfl)
    clear HE HL HD HF Hdl Hdd
    go_enter Tryz.func41, Tryz.ntmps41
    go_wp2_with fail
    generalize (((w.alloc (.cells #[.slice (some ⟨bk, off0, none⟩) 3 cap] 66)).alloc (.cells #[.int .i64 a.kind, .int .i64 a.on, .int .i64 a.up, .int .i64 a.late, .slice oa a.push.objects.length oc, .slice ua a.push.updates.length uc, .bool a.push.force] 68)).alloc (.cells #[.slice none 0 0] 66)) = w1 at *
    refine (Ao a.kind 1 3 _).mono ?_
    rintro e y1 ⟨rfl, rfl⟩
    rw [hw]
    have d4 := a4 _ hR1
    have d5 := a5 _ hR1
    have d6 := a6 _ hR1
    go_wp2_with fail
    refine (HSp.out _ hR1).mono ?_
    rintro e w2 ⟨rfl, hb2⟩
    have hR2 := hRn _ _ hR1 hb2
    clear hb2 b0 b1 b2 b3 d4 d5 d6
    have b0 := a0 _ hR2
    have b1 := a1 _ hR2
    have b2 := a2 _ hR2
    have b3 := a3 _ hR2
    have HZW := zh (HZ.out _ hR2)
    have HBW := zh (hRb _ hR2)
    have gz := Aa (j := 0) HZW.out rfl
    have fz := Ab (j := 0) HZW.out
    go_wp2_with fail
    have hu5 : Av (fun b => b = w.heap.size + 2) w2 (w2.setCell ⟨w.heap.size + 2, 0, none⟩ (.slice none 0 0)) := (Av.refl (fun b => b = w.heap.size + 2) w2).setCell (p := ⟨w.heap.size + 2, 0, none⟩) (fun _ => rfl) _
    have hk5 : (w2.setCell ⟨w.heap.size + 2, 0, none⟩ (.slice none 0 0)).heap[w.heap.size + 2]? = some (.cells #[.slice none 0 0] 66 (0, 0)) := Ad (j := 0) HZW.out (.slice none 0 0)
    have hB5 := HBW.out.trans (hu5.below (B := w.heap.size) HBW.out.size (fun b hb => by have e2 : b = w.heap.size + 2 := hb; omega))
    generalize w2.setCell ⟨w.heap.size + 2, 0, none⟩ (.slice none 0 0) = x5 at *
    have k0 := Aa (j := 0) hk5 rfl
    refine bodyPost_ret (v := .tuple #[.agg #[.slice none 0 0], .bool false, .int .i64 1]) (by simp [results, Tryz.results41, go_sem]; simp [k0] <;> rfl) rfl ?_
    refine ⟨_, by rw [HD2.out, HE2.out] <;> rfl, by rw [HL2.out]; exact AJ.nil _ _ _ _ (by omega), hB5⟩
  have qu : (a.up != 0) = false := by simpa using g5
  have Hg5 := zh g5
  clear g5
  by_cases g6 : a.late = 0
  case neg =>
    have ql : (a.late != 0) = true := by simpa using g6
    have HE2 := zh (show Di l a = 1 by have h0 : Cn a = 1 := (by rw [HF.out, if_neg Hk5.out, if_pos (.inr ⟨g1, .inr (.inr g6)⟩)]); rw [HE.out, if_pos (by rw [h0]; decide), h0])
    have HL2 := zh (show Gk l a = [] by rw [Hdl.out, HE2.out]; rfl)
    have HD2 := zh (show JP l a = false by rw [Hdd.out, HE2.out]; rfl)
    clear HE HL HD HF Hdl Hdd
    go_enter Tryz.func41, Tryz.ntmps41
    go_wp2_with fail
    generalize (((w.alloc (.cells #[.slice (some ⟨bk, off0, none⟩) 3 cap] 66)).alloc (.cells #[.int .i64 a.kind, .int .i64 a.on, .int .i64 a.up, .int .i64 a.late, .slice oa a.push.objects.length oc, .slice ua a.push.updates.length uc, .bool a.push.force] 68)).alloc (.cells #[.slice none 0 0] 66)) = w1 at *
    refine (Ao a.kind 1 3 _).mono ?_
    rintro e y1 ⟨rfl, rfl⟩
    rw [hw]
    have d4 := a4 _ hR1
    have d5 := a5 _ hR1
    have d6 := a6 _ hR1
    go_wp2_with fail
    refine (HSp.out _ hR1).mono ?_
    rintro e w2 ⟨rfl, hb2⟩
    have hR2 := hRn _ _ hR1 hb2
    clear hb2 b0 b1 b2 b3 d4 d5 d6
    have b0 := a0 _ hR2
    have b1 := a1 _ hR2
    have b2 := a2 _ hR2
    have b3 := a3 _ hR2
    have HZW := zh (HZ.out _ hR2)
    have HBW := zh (hRb _ hR2)
    have gz := Aa (j := 0) HZW.out rfl
    have fz := Ab (j := 0) HZW.out
    go_wp2_with fail
    have hu5 : Av (fun b => b = w.heap.size + 2) w2 (w2.setCell ⟨w.heap.size + 2, 0, none⟩ (.slice none 0 0)) := (Av.refl (fun b => b = w.heap.size + 2) w2).setCell (p := ⟨w.heap.size + 2, 0, none⟩) (fun _ => rfl) _
    have hk5 : (w2.setCell ⟨w.heap.size + 2, 0, none⟩ (.slice none 0 0)).heap[w.heap.size + 2]? = some (.cells #[.slice none 0 0] 66 (0, 0)) := Ad (j := 0) HZW.out (.slice none 0 0)
    have hB5 := HBW.out.trans (hu5.below (B := w.heap.size) HBW.out.size (fun b hb => by have e2 : b = w.heap.size + 2 := hb; omega))
    generalize w2.setCell ⟨w.heap.size + 2, 0, none⟩ (.slice none 0 0) = x5 at *
    have k0 := Aa (j := 0) hk5 rfl
    refine bodyPost_ret (v := .tuple #[.agg #[.slice none 0 0], .bool false, .int .i64 1]) (by simp [results, Tryz.results41, go_sem]; simp [k0] <;> rfl) rfl ?_
    refine ⟨_, by rw [HD2.out, HE2.out] <;> rfl, by rw [HL2.out]; exact AJ.nil _ _ _ _ (by omega), hB5⟩
  have ql : (a.late != 0) = false := by simpa using g6
  have Hs := zh (show ¬ ((a.kind = 1 ∧ a.on ≠ 0) ∨ (a.kind ≠ 1 ∧ (true = false ∨ a.up ≠ 0 ∨ a.late ≠ 0))) from fun h => h.elim (fun h => Hg1.out h.1) (fun h => h.2.elim (fun h => by cases h) (fun h => h.elim (fun h => h Hg5.out) (fun h => h g6))))
  clear g6 g1
  cases ho : within a.on 0 2
  case false =>
    have HE2 := zh (show Di l a = 3 by have h0 : Cn a = 3 := (by rw [HF.out, if_neg Hk5.out, if_neg Hs.out, if_pos (show a.on < 0 ∨ 3 ≤ a.on from by have := DI ho; omega)]); rw [HE.out, if_pos (by rw [h0]; decide), h0])
    have HL2 := zh (show Gk l a = [] by rw [Hdl.out, HE2.out]; rfl)
    have HD2 := zh (show JP l a = false by rw [Hdd.out, HE2.out]; rfl)
    clear HE HL HD HF Hdl Hdd
    go_enter Tryz.func41, Tryz.ntmps41
    go_wp2_with fail
    generalize (((w.alloc (.cells #[.slice (some ⟨bk, off0, none⟩) 3 cap] 66)).alloc (.cells #[.int .i64 a.kind, .int .i64 a.on, .int .i64 a.up, .int .i64 a.late, .slice oa a.push.objects.length oc, .slice ua a.push.updates.length uc, .bool a.push.force] 68)).alloc (.cells #[.slice none 0 0] 66)) = w1 at *
    refine (Ao a.kind 1 3 _).mono ?_
    rintro e y1 ⟨rfl, rfl⟩
    rw [hw]
    have d4 := a4 _ hR1
    have d5 := a5 _ hR1
    have d6 := a6 _ hR1
    go_wp2_with fail
    refine (HSp.out _ hR1).mono ?_
    rintro e w2 ⟨rfl, hb2⟩
    have hR2 := hRn _ _ hR1 hb2
    clear hb2 b0 b1 b2 b3 d4 d5 d6
    have b0 := a0 _ hR2
    have b1 := a1 _ hR2
    have b2 := a2 _ hR2
    have b3 := a3 _ hR2
    go_wp2_with fail
    refine (Ao a.on 0 2 _).mono ?_
    rintro e y1 ⟨rfl, rfl⟩
    rw [ho]
    have HZW := zh (HZ.out _ hR2)
    have HBW := zh (hRb _ hR2)
    have gz := Aa (j := 0) HZW.out rfl
    have fz := Ab (j := 0) HZW.out
    go_wp2_with fail
    have hu5 : Av (fun b => b = w.heap.size + 2) w2 (w2.setCell ⟨w.heap.size + 2, 0, none⟩ (.slice none 0 0)) := (Av.refl (fun b => b = w.heap.size + 2) w2).setCell (p := ⟨w.heap.size + 2, 0, none⟩) (fun _ => rfl) _
    have hk5 : (w2.setCell ⟨w.heap.size + 2, 0, none⟩ (.slice none 0 0)).heap[w.heap.size + 2]? = some (.cells #[.slice none 0 0] 66 (0, 0)) := Ad (j := 0) HZW.out (.slice none 0 0)
    have hB5 := HBW.out.trans (hu5.below (B := w.heap.size) HBW.out.size (fun b hb => by have e2 : b = w.heap.size + 2 := hb; omega))
    generalize w2.setCell ⟨w.heap.size + 2, 0, none⟩ (.slice none 0 0) = x5 at *
    have k0 := Aa (j := 0) hk5 rfl
    refine bodyPost_ret (v := .tuple #[.agg #[.slice none 0 0], .bool false, .int .i64 3]) (by simp [results, Tryz.results41, go_sem]; simp [k0] <;> rfl) rfl ?_
    refine ⟨_, by rw [HD2.out, HE2.out] <;> rfl, by rw [HL2.out]; exact AJ.nil _ _ _ _ (by omega), hB5⟩
  have Hon := zh (Bw ho)
  have hf0 : Cn a = 0 := by rw [HF.out, if_neg Hk5.out, if_neg Hs.out, if_neg (by have := Hon.out; omega)]
  rw [if_neg (by simpa using hf0)] at HE
  clear hf0 HF
  rw [if_neg Hg1.out] at HE HL HD
  obtain ⟨i, hi⟩ : ∃ i : Nat, a.on = (i : Int) := ⟨a.on.toNat, by have := Hon.out; omega⟩
  have hi3 : i < 3 := by have := Hon.out; omega
  have hti : a.on.toNat = i := by rw [hi]; rfl
  rw [hti] at HE HL
  have Hi := zh hi
  clear hti hi
  go_enter Tryz.func41, Tryz.ntmps41
  go_wp2_with fail
  generalize (((w.alloc (.cells #[.slice (some ⟨bk, off0, none⟩) 3 cap] 66)).alloc (.cells #[.int .i64 a.kind, .int .i64 a.on, .int .i64 a.up, .int .i64 a.late, .slice oa a.push.objects.length oc, .slice ua a.push.updates.length uc, .bool a.push.force] 68)).alloc (.cells #[.slice none 0 0] 66)) = w1 at *
  refine (Ao a.kind 1 3 _).mono ?_
  rintro e y1 ⟨rfl, rfl⟩
  rw [hw]
  have d4 := a4 _ hR1
  have d5 := a5 _ hR1
  have d6 := a6 _ hR1
  go_wp2_with fail
  refine (HSp.out _ hR1).mono ?_
  rintro e w2 ⟨rfl, hb2⟩
  have hR2 := hRn _ _ hR1 hb2
  clear hb2 b0 b1 b2 b3 d4 d5 d6
  have b0 := a0 _ hR2
  have b1 := a1 _ hR2
  have b2 := a2 _ hR2
  have b3 := a3 _ hR2
  go_wp2_with fail
  refine (Ao a.on 0 2 _).mono ?_
  rintro e y1 ⟨rfl, rfl⟩
  rw [ho]
  have hs4 := HSz.out _ hR2
  have hb4 := hRb _ hR2
  have hO3 := BD.none0 (w.heap.size + 3) w2 hs4
  have hb3 : Below w2.heap.size w2 (w2.alloc (.cells #[] 28)) := bal
  obtain ⟨v4, x4, hap, hO4, hu4⟩ := Fd 64 hO3 (H.out.below (hb4.trans (hb3.mono (by omega)))) (fun b hb => ⟨by simp; omega, fun e => by simp [Value.ownBlock] at e; omega⟩) (by have := HL3.out; simp; omega) (by simp; omega)
  rw [List.nil_append] at hO4
  obtain ⟨a4, c4, rfl⟩ := hO4.shape
  obtain ⟨g, rfl⟩ : ∃ g, a4 = some ⟨g, 0, none⟩ := by
    obtain ⟨_, _, ⟨_, h2⟩, _⟩ := hO4
    rcases h2 with ⟨e, h0⟩ | ⟨g, cp, cur, e, _⟩
    · have := HL3.out; exfalso; omega
    · cases e; exact ⟨g, rfl⟩
  rw [HL3.out] at hO4 hap
  have hg4 : w.heap.size + 3 ≤ g ∧ g < x4.heap.size := hO4.block rfl
  have hB4 : Below w2.heap.size w2 x4 := hb3.trans (hu4.below (B := w2.heap.size) (by simp) (fun b hb => by simp [Value.ownBlock] at hb; omega))
  obtain ⟨x5, hx5⟩ : ∃ x5, x5 = x4.alloc (.cells #[.slice (some ⟨g, 0, none⟩) 3 c4] 66) := ⟨_, rfl⟩
  have hb5 : Below x4.heap.size x4 x5 := by rw [hx5]; exact (Below.refl _ _).alloc (Nat.le_refl _) _
  have HO5 := zh (show BD (fun b => ((A b ∧ b < w.heap.size) ∨ w.heap.size + 3 ≤ b) ∧ b ≠ g ∧ b < x5.heap.size) (w.heap.size + 3) x5 (.slice (some ⟨g, 0, none⟩) 3 c4) l from by
    have hz4 := hB4.size
    have hz5 := hb5.size
    refine (hO4.below hb5).weaken (fun b hb => ?_) (fun b hb => ⟨hb.2.2, fun e => hb.2.1 (by cases e; rfl)⟩) (Nat.le_refl _)
    rcases hb with hb | hb
    · exact hb.elim
    · exact ⟨.inl hb, by omega, by omega⟩)
  have hR5 : In R x5 := hRn _ _ hR2 (hB4.trans (hb5.mono hB4.size))
  have hD5 : x5.heap[x4.heap.size]? = some (.cells #[.slice (some ⟨g, 0, none⟩) 3 c4] 66 (0, 0)) := by rw [hx5]; exact heap_alloc_new x4 _
  have hz5 : x5.heap.size = x4.heap.size + 1 := by rw [hx5]; simp
  have Hz5 := zh hz5
  have HD5 := zh hD5
  have Hx5 := zh hx5
  have cc := c0 _ (hRn _ _ hR2 hb3)
  have hgl : g < x4.heap.size := hg4.2
  have hgb : w.heap.size + 3 ≤ g := hg4.1
  have f0 := a0 _ hR5
  clear hO4 hO3 hu4 hb3 hB4 hb5 hx5 hz5 hg4 hD5 hb4 hs4
  go_upto_region 10 with (at_builtin; refine AX rfl _ _ 64 rfl _ _ _ rfl rfl hap ?_)
  rw [← Hx5.out]
  clear hap cc Hx5 b0 b1 b2 b3
  generalize x4.heap.size = D5 at *
  have hi1 : (0 : Int) ≤ (i : Int) := by omega
  have hi2 : (i : Int) < 3 := by omega
  by_cases g2 : a.kind = 2
  case neg =>
    have qk3 : (a.kind == 3) = true := by have := Hin.out; have h1 := Hg1.out; simp; omega
    rw [if_neg g2] at HE HL
    have HE2 := HE
    have HL2 := zh (show Gk l a = l.set i (DD (Af l i)) by rw [Hdl.out, if_pos HE.out, HL.out])
    have HD2 := zh (show JP l a = true by rw [Hdd.out, if_pos HE.out, HD.out])
    clear g2 HE HL HD Hdl Hdd
    go_upto_region 11 with fail
    clear f0
    obtain ⟨T, hT, hT1, _⟩ := Ay x5
    have hTb := hT.below
    have hTn := hT.next
    have HTR := zh (fun x (hx : In T x) => hRn _ _ hR5 (hTb _ hx))
    have d0 := fun x (hx : In T x) => c0 x (HTR.out x hx)
    have d1 := fun x (hx : In T x) => (show x.cell? ⟨w.heap.size + 1, 1, none⟩ = some (.int .i64 (i : Int)) from by have := a1 x (HTR.out x hx); rw [Hi.out] at this; exact this)
    have d5 := fun x (hx : In T x) => Ai (hTb _ hx) (Aa (j := 0) HD5.out rfl)
    have e0 := fun x (hx : In T x) => Hk.out.1 i x hi3 (hRb _ (HTR.out x hx))
    have e1 := fun x (hx : In T x) => Hk.out.2.1 i x hi3 (hRb _ (HTR.out x hx))
    have e2 := fun x (hx : In T x) => Hk.out.2.2.1 i x hi3 (hRb _ (HTR.out x hx))
    have e3 := fun x (hx : In T x) => Hk.out.2.2.2.1 i x hi3 (hRb _ (HTR.out x hx))
    have e4 := fun x (hx : In T x) => Hk.out.2.2.2.2.1 i x hi3 (hRb _ (HTR.out x hx))
    have e5 := fun x (hx : In T x) => Hk.out.2.2.2.2.2.1 i x hi3 (hRb _ (HTR.out x hx))
    have e6 := fun x (hx : In T x) => Hk.out.2.2.2.2.2.2 i x hi3 (hRb _ (HTR.out x hx))
    have HId := zh (fun x (hx : In T x) => Ss (Af l i) _ _ _ _ _ x ((H5.out i hi3).below (hRb _ (HTR.out x hx))))
    simp only [Bf] at HId
    generalize hrr : DD (Af l i) = rr at *
    have Hrr := zh hrr
    clear hrr
    refine wp_region_held (S := In (dST D5 g c4 w bk off0 cap i fr l)) (by kernel_rfl) ?_
    change wpAnyH _ _ _ _ _ _ _ _ (World.drew _)
    have hT0 := hT.drew _ hT1
    have Hs0 := zh (fun x (hx : In T x) => show In (dST D5 g c4 w bk off0 cap i fr l) x from show (dST D5 g c4 w bk off0 cap i fr l) x from ⟨d5 x hx, d0 x hx, d1 x hx, e0 x hx, e1 x hx, e2 x hx, e3 x hx, e4 x hx, e5 x hx, e6 x hx⟩)
    have hC0 := Hs0.out _ hT0
    generalize hx0 : x5.drew = x0 at hC0 hT0 ⊢
    clear hx0
    refine tk 0 (.pointer (some ⟨D5, 0, none⟩)) (fun w hSw => ?_) hC0 ?_
    · go_simp
    simp only [tkS]
    refine tk 1 (.slice (some ⟨g, 0, none⟩) 3 c4) (fun w hSw => ?_) hC0 ?_
    · have yq : _ ∧ _ ∧ _ ∧ _ := hSw; have yy := yq.1; go_simp
    simp only [tkS]
    refine tk 2 (.pointer (some ⟨w.heap.size + 1, 1, none⟩)) (fun w hSw => ?_) hC0 ?_
    · go_simp
    simp only [tkS]
    refine tk 3 (.int .i64 (i : Int)) (fun w hSw => ?_) hC0 ?_
    · have yq : _ ∧ _ ∧ _ ∧ _ := hSw; have yy := yq.2.2.1; go_simp
    simp only [tkS]
    refine tk 4 (.pointer (some ⟨w.heap.size, 0, none⟩)) (fun w hSw => ?_) hC0 ?_
    · go_simp
    simp only [tkS]
    refine tk 5 (.slice (some ⟨bk, off0, none⟩) 3 cap) (fun w hSw => ?_) hC0 ?_
    · have yq : _ ∧ _ ∧ _ ∧ _ := hSw; have yy := yq.2.1; go_simp
    simp only [tkS]
    refine tk 6 (.pointer (some ⟨w.heap.size + 1, 1, none⟩)) (fun w hSw => ?_) hC0 ?_
    · go_simp
    simp only [tkS]
    refine tk 7 (.int .i64 (i : Int)) (fun w hSw => ?_) hC0 ?_
    · have yq : _ ∧ _ ∧ _ ∧ _ := hSw; have yy := yq.2.2.1; go_simp
    simp only [tkS]
    refine tk 8 (.pointer (some ⟨bk, off0 + i * 7, none⟩)) (fun w hSw => ?_) hC0 ?_
    · go_simp
    simp only [tkS]
    refine tk 9 (.agg (c7 (Af l i) (fr i).sa (fr i).sc (fr i).ra (fr i).rc (fr i).oa (fr i).oc (fr i).ua (fr i).uc)) (fun w hSw => ?_) hC0 ?_
    · have yq : _ ∧ _ ∧ _ ∧ _ := hSw; obtain ⟨u0, u1, u2, u3, u4, u5, u6⟩ := yq.2.2.2; go_simp
    simp only [tkS]
    refine al1 10 ?_
    refine Or.inl ?_
    go_wp2_with fail
    refine (HId.out _ hT0).mono ?_
    rintro e y1 ⟨svt, rvt, rfl, hv, hb1⟩
    obtain ⟨sv5, Ed, rfl⟩ := hv.store.vshape
    obtain ⟨⟨rv5, rc5⟩, rfl⟩ := hv.refs.shape
    have hT1 := hTn _ _ hT0 hb1
    have hC1 := Hs0.out _ hT1
    have Hv := zh (hv.lt)
    clear hv hb1
    simp only [Bf]
    go_simp
    refine tk 11 (.pointer (some ⟨g, i * 7, none⟩)) (fun w hSw => ?_) hC1 ?_
    · go_simp
    simp only [tkS]
    refine al1 12 ?_
    refine Or.inl ?_
    have hyb := hTb _ hT1
    have hOy := HO5.out.below hyb
    obtain ⟨a9, n9, cap9, fr9, HN9, e9, _, _, _, h49, h59⟩ := (hOy.any (by have := HL3.out; omega)).open
    cases e9
    obtain ⟨b9, off9, e9, _, k0, k1, k2, k3, k4, k5, k6⟩ := h49 (by omega)
    cases e9
    simp only [Nat.zero_add] at k0 k1 k2 k3 k4 k5 k6
    have o0 := k0 i _ hi3 (Below.refl _ _)
    have o1 := k1 i _ hi3 (Below.refl _ _)
    have o2 := k2 i _ hi3 (Below.refl _ _)
    have o3 := k3 i _ hi3 (Below.refl _ _)
    have o4 := k4 i _ hi3 (Below.refl _ _)
    have o5 := k5 i _ hi3 (Below.refl _ _)
    have o6 := k6 i _ hi3 (Below.refl _ _)
    have f0 := hOy.free (i * 7)
    have f1 := hOy.free (i * 7 + 1)
    have f2 := hOy.free (i * 7 + 2)
    have f3 := hOy.free (i * 7 + 3)
    have f4 := hOy.free (i * 7 + 4)
    have f5 := hOy.free (i * 7 + 5)
    have f6 := hOy.free (i * 7 + 6)
    clear h49 h59 HN9 k0 k1 k2 k3 k4 k5 k6
    have hset := hOy.set (i := i) (r := rr) (x := ⟨.slice sv5 rr.store.length Ed, .slice rv5 rr.refs.length rc5, .slice none 0 0, .slice none 0 0⟩) (show i < l.length by rw [HL3.out]; exact hi3) (S2 := fun b => (A b ∧ b < w.heap.size) ∧ b < y1.heap.size) Hv.out (fun b hb => ⟨hb.2, fun e => by have := hb.1.2; omega⟩)
    have HO9 := zh (show BD (fun b => ((A b ∧ b < w.heap.size) ∨ w.heap.size + 3 ≤ b) ∧ b ≠ g ∧ b < (y1.setCells g (i * 7) (BA rr ⟨.slice sv5 rr.store.length Ed, .slice rv5 rr.refs.length rc5, .slice none 0 0, .slice none 0 0⟩)).heap.size) (w.heap.size + 3) (y1.setCells g (i * 7) (BA rr ⟨.slice sv5 rr.store.length Ed, .slice rv5 rr.refs.length rc5, .slice none 0 0, .slice none 0 0⟩)) (.slice (some ⟨g, 0, none⟩) 3 c4) (l.set i rr) from by
      have hz := hset.2.size
      have hz1 := hyb.size
      refine hset.1.weaken (fun b hb => ?_) (fun b hb => ⟨hb.2.2, fun e => hb.2.1 (by cases e; rfl)⟩) (Nat.le_refl _)
      rcases hb with hb | hb
      · exact ⟨hb.1, hb.2.1, by omega⟩
      · exact ⟨.inl hb.1, (fun e => by have := hb.1.2; omega), by omega⟩)
    have HUg := zh hset.2
    have hq : _ ∧ _ ∧ _ ∧ _ := hC1
    have HS9 := zh (show In (dST D5 g c4 w bk off0 cap i fr l) (y1.setCells g (i * 7) (BA rr ⟨.slice sv5 rr.store.length Ed, .slice rv5 rr.refs.length rc5, .slice none 0 0, .slice none 0 0⟩)) from show (dST D5 g c4 w bk off0 cap i fr l) (y1.setCells g (i * 7) (BA rr ⟨.slice sv5 rr.store.length Ed, .slice rv5 rr.refs.length rc5, .slice none 0 0, .slice none 0 0⟩)) from ⟨HUg.out.cell hq.1 (fun e => by have e2 : D5 = g := e; omega), HUg.out.cell hq.2.1 (fun e => by have e2 : w.heap.size = g := e; omega), HUg.out.cell hq.2.2.1 (fun e => by have e2 : w.heap.size + 1 = g := e; omega), HUg.out.cell hq.2.2.2.1 (fun e => by have e2 : bk = g := e; have := hb0.2; omega), HUg.out.cell hq.2.2.2.2.1 (fun e => by have e2 : bk = g := e; have := hb0.2; omega), HUg.out.cell hq.2.2.2.2.2.1 (fun e => by have e2 : bk = g := e; have := hb0.2; omega), HUg.out.cell hq.2.2.2.2.2.2.1 (fun e => by have e2 : bk = g := e; have := hb0.2; omega), HUg.out.cell hq.2.2.2.2.2.2.2.1 (fun e => by have e2 : bk = g := e; have := hb0.2; omega), HUg.out.cell hq.2.2.2.2.2.2.2.2.1 (fun e => by have e2 : bk = g := e; have := hb0.2; omega), HUg.out.cell hq.2.2.2.2.2.2.2.2.2 (fun e => by have e2 : bk = g := e; have := hb0.2; omega)⟩)
    clear hset hOy hyb hq
    go_wp2_with fail
    first | refine ⟨by kernel_rfl, ?_⟩ | refine ⟨HS9.out, by kernel_rfl, ?_⟩
    first | change Exit.then _ _ _ _ (y1.setCells g (i * 7) (BA rr ⟨.slice sv5 rr.store.length Ed, .slice rv5 rr.refs.length rc5, .slice none 0 0, .slice none 0 0⟩)) | change Exit.inBlock _ _ _ _ (y1.setCells g (i * 7) (BA rr ⟨.slice sv5 rr.store.length Ed, .slice rv5 rr.refs.length rc5, .slice none 0 0, .slice none 0 0⟩))
    have HZW := zh (HUg.out.blk (HZ.out _ (HTR.out _ hT1)) (fun e => by have e2 : w.heap.size + 2 = g := e; omega))
    have HBW := zh ((hRb _ (HTR.out _ hT1)).trans (HUg.out.below (B := w.heap.size) (hRb _ (HTR.out _ hT1)).size (fun b hb => by have e2 : b = g := hb; omega)))
    have hq : _ ∧ _ ∧ _ ∧ _ := HS9.out
    have d9 := hq.1
    clear HS9 HUg hq o0 o1 o2 o3 o4 o5 o6 f0 f1 f2 f3 f4 f5 f6
    generalize y1.setCells g (i * 7) (BA rr ⟨.slice sv5 rr.store.length Ed, .slice rv5 rr.refs.length rc5, .slice none 0 0, .slice none 0 0⟩) = w9 at *
    have gz := Aa (j := 0) HZW.out rfl
    have fz := Ab (j := 0) HZW.out
    go_wp2_with fail
    have hu5 : Av (fun b => b = w.heap.size + 2) w9 (w9.setCell ⟨w.heap.size + 2, 0, none⟩ (.slice (some ⟨g, 0, none⟩) 3 c4)) := (Av.refl (fun b => b = w.heap.size + 2) w9).setCell (p := ⟨w.heap.size + 2, 0, none⟩) (fun _ => rfl) _
    have hk5 : (w9.setCell ⟨w.heap.size + 2, 0, none⟩ (.slice (some ⟨g, 0, none⟩) 3 c4)).heap[w.heap.size + 2]? = some (.cells #[.slice (some ⟨g, 0, none⟩) 3 c4] 66 (0, 0)) := Ad (j := 0) HZW.out (.slice (some ⟨g, 0, none⟩) 3 c4)
    have hB5 := HBW.out.trans (hu5.below (B := w.heap.size) HBW.out.size (fun b hb => by have e2 : b = w.heap.size + 2 := hb; omega))
    have hO7 := HO9.out.upd hu5 (fun b hb e => by have e2 : b = w.heap.size + 2 := e; rcases hb.1 with h | h <;> omega) (fun q hq e => by have e2 : q = w.heap.size + 2 := e; simp [Value.ownBlock] at hq; omega)
    generalize w9.setCell ⟨w.heap.size + 2, 0, none⟩ (.slice (some ⟨g, 0, none⟩) 3 c4) = x5 at *
    have k0 := Aa (j := 0) hk5 rfl
    refine bodyPost_ret (v := .tuple #[.agg #[.slice (some ⟨g, 0, none⟩) 3 c4], .bool true, .int .i64 0]) (by simp [results, Tryz.results41, go_sem]; simp [k0] <;> rfl) rfl ?_
    refine ⟨_, by rw [HD2.out, HE2.out] <;> rfl, by rw [HL2.out]; exact hO7.reps (S' := fun b => A b ∨ w.heap.size ≤ b) (by rw [List.length_set, HL3.out]; omega) (fun b hb => hb.1.elim (fun h => .inl h.1) (fun h => .inr (by omega))) (fun b hb => by simp [Value.ownBlock] at hb; exact .inr (by omega)), hB5⟩
  have qk3 : (a.kind == 3) = false := by rw [g2]; rfl
  rw [if_pos g2] at HE HL
  have Hg2 := zh g2
  clear g2
  have hbl : Co l < 3 := by have := GL (l := l) (by have := HL3.out; omega); have := HL3.out; omega
  obtain ⟨bi, hbi⟩ : ∃ bi, bi = Co l := ⟨_, rfl⟩
  rw [← hbi] at hbl HE HL
  have Hbi := zh hbi
  clear hbi
  obtain ⟨rr, hrr⟩ : ∃ rr, rr = BI (Af l bi) (Af l i) := ⟨_, rfl⟩
  obtain ⟨re, hre⟩ : ∃ re, re = BV (Af l bi) (Af l i) := ⟨_, rfl⟩
  rw [← hrr] at HL
  rw [← hre] at HE
  have Hrr := zh hrr
  have Hre := zh hre
  clear hrr hre
  go_upto_region 13 with fail
  clear f0
  obtain ⟨Q, hQ, hQ1, hQu⟩ := EJ x5
  have hQb := hQ.below
  have hQn := hQ.next
  have HQu := zh hQu
  clear hQu
  have HQR := zh (fun x (hx : In Q x) => hRn _ _ hR5 (hQb _ hx))
  have d0 := fun x (hx : In Q x) => c0 x (HQR.out x hx)
  have d1 := fun x (hx : In Q x) => (show x.cell? ⟨w.heap.size + 1, 1, none⟩ = some (.int .i64 (i : Int)) from by have := a1 x (HQR.out x hx); rw [Hi.out] at this; exact this)
  have e0 := fun x (hx : In Q x) => Hk.out.1 i x hi3 (hRb _ (HQR.out x hx))
  have g0 := fun x (hx : In Q x) => Hk.out.1 bi x hbl (hRb _ (HQR.out x hx))
  have e1 := fun x (hx : In Q x) => Hk.out.2.1 i x hi3 (hRb _ (HQR.out x hx))
  have g1 := fun x (hx : In Q x) => Hk.out.2.1 bi x hbl (hRb _ (HQR.out x hx))
  have e2 := fun x (hx : In Q x) => Hk.out.2.2.1 i x hi3 (hRb _ (HQR.out x hx))
  have g2 := fun x (hx : In Q x) => Hk.out.2.2.1 bi x hbl (hRb _ (HQR.out x hx))
  have e3 := fun x (hx : In Q x) => Hk.out.2.2.2.1 i x hi3 (hRb _ (HQR.out x hx))
  have g3 := fun x (hx : In Q x) => Hk.out.2.2.2.1 bi x hbl (hRb _ (HQR.out x hx))
  have e4 := fun x (hx : In Q x) => Hk.out.2.2.2.2.1 i x hi3 (hRb _ (HQR.out x hx))
  have g4 := fun x (hx : In Q x) => Hk.out.2.2.2.2.1 bi x hbl (hRb _ (HQR.out x hx))
  have e5 := fun x (hx : In Q x) => Hk.out.2.2.2.2.2.1 i x hi3 (hRb _ (HQR.out x hx))
  have g5 := fun x (hx : In Q x) => Hk.out.2.2.2.2.2.1 bi x hbl (hRb _ (HQR.out x hx))
  have e6 := fun x (hx : In Q x) => Hk.out.2.2.2.2.2.2 i x hi3 (hRb _ (HQR.out x hx))
  have g6 := fun x (hx : In Q x) => Hk.out.2.2.2.2.2.2 bi x hbl (hRb _ (HQR.out x hx))
  have HBe := zh (fun x (hx : In Q x) => JE l _ _ x (H.out.below (hRb _ (HQR.out x hx))))
  rw [← Hbi.out] at HBe
  have HRp := zh (fun x (hx : In Q x) => QL (Af l bi) (Af l i) _ _ _ _ _ _ _ _ _ _ x ((H5.out bi hbl).below (hRb _ (HQR.out x hx))) ((H5.out i hi3).below (hRb _ (HQR.out x hx))) ((BR (Eo (Bg.2 (HC.out.each bi hbl)))).1) (Eo (Bg.2 (HC.out.each i hi3))))
  simp only [Bf] at HRp
  rw [← Hrr.out, ← Hre.out] at HRp
  have hj1 : (0 : Int) ≤ (bi : Int) := by omega
  have hj2 : (bi : Int) < 3 := by omega
  go_cut [8, 9] (fun s8 s9 wx => ∃ D9, s8 = .pointer (some ⟨D9, 0, none⟩) ∧ s9 = .int .i64 re ∧ ∃ y9, y9 = wx ∧ Hid (In Q y9 ∧ x5.heap.size ≤ D9 ∧ ∃ Bm Bv ra1 rc1 oa1 oc1 ua1 uc1, y9.heap[D9]? = some (.cells (c7 rr Bm Bv ra1 rc1 oa1 oc1 ua1 uc1) 28 (0, 0)) ∧ AH (fun b => (((A b ∧ b < w.heap.size) ∨ x5.heap.size ≤ b) ∧ b < y9.heap.size) ∧ b ≠ D9) y9 rr (.slice Bm rr.store.length Bv) (.slice ra1 rr.refs.length rc1) (.slice oa1 rr.pend.objects.length oc1) (.slice ua1 rr.pend.updates.length uc1)))
  case first =>
    refine wp_region_held (S := In Q) (by kernel_rfl) ?_
    change wpAnyH _ _ _ _ _ _ _ _ (World.drew _)
    have hC0 := hQ.drew _ hQ1
    generalize hx0 : x5.drew = x0 at hC0 ⊢
    clear hx0
    refine tk 0 (.pointer (some ⟨w.heap.size, 0, none⟩)) (fun w hSw => ?_) hC0 ?_
    · go_simp
    simp only [tkS]
    refine tk 1 (.slice (some ⟨bk, off0, none⟩) 3 cap) (fun w hSw => ?_) hC0 ?_
    · have yy := d0 _ hSw; go_simp
    simp only [tkS]
    refine tk 2 (.agg #[.slice (some ⟨bk, off0, none⟩) 3 cap]) (fun w hSw => ?_) hC0 ?_
    · have yy := d0 _ hSw; go_simp
    simp only [tkS]
    refine tk 6 (.pointer (some ⟨w.heap.size, 0, none⟩)) (fun w hSw => ?_) hC0 ?_
    · go_simp
    simp only [tkS]
    refine tk 7 (.slice (some ⟨bk, off0, none⟩) 3 cap) (fun w hSw => ?_) hC0 ?_
    · have yy := d0 _ hSw; go_simp
    simp only [tkS]
    refine tk 8 (.pointer (some ⟨w.heap.size + 1, 1, none⟩)) (fun w hSw => ?_) hC0 ?_
    · go_simp
    simp only [tkS]
    refine tk 9 (.int .i64 (i : Int)) (fun w hSw => ?_) hC0 ?_
    · have yy := d1 _ hSw; go_simp
    simp only [tkS]
    refine tk 10 (.pointer (some ⟨bk, off0 + i * 7, none⟩)) (fun w hSw => ?_) hC0 ?_
    · go_simp
    simp only [tkS]
    refine tk 11 (.agg (c7 (Af l i) (fr i).sa (fr i).sc (fr i).ra (fr i).rc (fr i).oa (fr i).oc (fr i).ua (fr i).uc)) (fun w hSw => ?_) hC0 ?_
    · have y0 := e0 _ hSw; have y1 := e1 _ hSw; have y2 := e2 _ hSw; have y3 := e3 _ hSw; have y4 := e4 _ hSw; have y5 := e5 _ hSw; have y6 := e6 _ hSw; go_simp
    simp only [tkS]
    refine wpAnyH_all (rs := [3, 16]) (by kernel_rfl) (by simp) (fun j hj => ?_)
    rcases List.mem_cons.1 hj with rfl | hj
    · skip
      refine Or.inl ?_
      go_wp2_with fail
      refine (HBe.out _ hC0).mono ?_
      rintro e x20 ⟨rfl, hb9⟩
      have hC1 := hQn _ _ hC0 hb9
      generalize x20 = z1 at *
      clear hb9
      go_simp
      refine tk 4 (.pointer (some ⟨bk, off0 + bi * 7, none⟩)) (fun w hSw => ?_) hC1 ?_
      · go_simp
      simp only [tkS]
      refine tk 5 (.agg (c7 (Af l bi) (fr bi).sa (fr bi).sc (fr bi).ra (fr bi).rc (fr bi).oa (fr bi).oc (fr bi).ua (fr bi).uc)) (fun w hSw => ?_) hC1 ?_
      · have y0 := g0 _ hSw; have y1 := g1 _ hSw; have y2 := g2 _ hSw; have y3 := g3 _ hSw; have y4 := g4 _ hSw; have y5 := g5 _ hSw; have y6 := g6 _ hSw; go_simp
      simp only [tkS]
      refine wpAnyH_all (rs := [12, 16]) (by kernel_rfl) (by simp) (fun j hj => ?_)
      rcases List.mem_cons.1 hj with rfl | hj
      · skip
        refine Or.inl ?_
        go_wp2_with fail
        refine (HRp.out _ hC1).mono ?_
        rintro e x20 ⟨sv1, rv1, ov1, uv1, rfl, hv, hb1⟩
        have hC2 := hQn _ _ hC1 hb1
        obtain ⟨Bm, Bv, rfl⟩ := hv.store.vshape
        obtain ⟨⟨ra1, rc1⟩, rfl⟩ := hv.refs.shape
        obtain ⟨oa1, oc1, rfl⟩ := hv.objs.vshape
        obtain ⟨⟨ua1, uc1⟩, rfl⟩ := hv.upds.shape
        have hx9 := (hQb _ hC1).size
        have Hv := zh (hv.lt.weaken (S' := fun b => ((A b ∧ b < w.heap.size) ∨ x5.heap.size ≤ b) ∧ b < x20.heap.size) fun b hb => ⟨by rcases hb.1 with (h | h) | h; exact .inl h; exact .inl h; exact .inr (by omega), hb.2⟩)
        clear hv hx9
        simp only [Bf]
        go_simp
        clear hb1
        generalize x20 = z2 at *
        refine tk 13 (.tuple #[.agg (c7 rr Bm Bv ra1 rc1 oa1 oc1 ua1 uc1), .int .i64 re]) (fun w hSw => ?_) hC2 ?_
        · go_simp
        simp only [tkS]
        refine tk 14 (.agg (c7 rr Bm Bv ra1 rc1 oa1 oc1 ua1 uc1)) (fun w hSw => ?_) hC2 ?_
        · go_simp
        simp only [tkS]
        refine tk 15 (.int .i64 re) (fun w hSw => ?_) hC2 ?_
        · go_simp
        simp only [tkS]
        refine al1 16 ?_
        refine Or.inl ?_
        have Hv2 := zh ((Hv.out.below ((Below.refl _ _).alloc (Nat.le_refl _) (.cells z7 28))).weaken (S' := fun b => (((A b ∧ b < w.heap.size) ∨ x5.heap.size ≤ b) ∧ b < (z2.alloc (.cells z7 28)).heap.size) ∧ b ≠ z2.heap.size) fun b hb => ⟨⟨hb.1, by simp; omega⟩, by omega⟩)
        clear Hv
        have hC3 := hQ.alloc _ (.cells z7 28) hC2
        go_simp
        have hbA : Below z2.heap.size z2 (z2.alloc (.cells z7 28)) := bal
        have HDb := zh (heap_alloc_new z2 (.cells z7 28))
        have HDge := zh (hQb _ hC2).size
        clear hbA
        generalize z2.heap.size = D at *
        generalize z2.alloc (.cells z7 28) = z3 at *
        refine al1 17 ?_
        refine Or.inl ?_
        have hblk := HDb.out
        have p0 := Aa (j := 0) hblk rfl
        have q10 := Ab (j := 0) hblk
        have p1 := Aa (j := 1) hblk rfl
        have q11 := Ab (j := 1) hblk
        have p2 := Aa (j := 2) hblk rfl
        have q12 := Ab (j := 2) hblk
        have p3 := Aa (j := 3) hblk rfl
        have q13 := Ab (j := 3) hblk
        have p4 := Aa (j := 4) hblk rfl
        have q14 := Ab (j := 4) hblk
        have p5 := Aa (j := 5) hblk rfl
        have q15 := Ab (j := 5) hblk
        have p6 := Aa (j := 6) hblk rfl
        have q16 := Ab (j := 6) hblk
        have Hb7 := zh (Bz (v0 := .slice Bm rr.store.length Bv) (v1 := .slice ra1 rr.refs.length rc1) (v2 := .int .i64 rr.gen) (v3 := .int .i64 rr.phase) (v4 := .slice oa1 rr.pend.objects.length oc1) (v5 := .slice ua1 rr.pend.updates.length uc1) (v6 := .bool rr.pend.force) hblk)
        have Hu7 := zh (AY D (.slice Bm rr.store.length Bv) (.slice ra1 rr.refs.length rc1) (.int .i64 rr.gen) (.int .i64 rr.phase) (.slice oa1 rr.pend.objects.length oc1) (.slice ua1 rr.pend.updates.length uc1) (.bool rr.pend.force) z3)
        have hC4 := HQu.out _ _ _ hC3 Hu7.out (fun b hb => by have := HDge.out; have e2 : b = D := hb; omega)
        have Hv7 := zh ((Hv2.out.upd Hu7.out (fun b hb e => hb.2 e)).weaken (S' := fun b => (((A b ∧ b < w.heap.size) ∨ x5.heap.size ≤ b) ∧ b < (Bt D (.slice Bm rr.store.length Bv) (.slice ra1 rr.refs.length rc1) (.int .i64 rr.gen) (.int .i64 rr.phase) (.slice oa1 rr.pend.objects.length oc1) (.slice ua1 rr.pend.updates.length uc1) (.bool rr.pend.force) z3).heap.size) ∧ b ≠ D) fun b hb => ⟨⟨hb.1.1, by have := hb.1.2; have := Hu7.out.size; omega⟩, hb.2⟩)
        go_wp2_with fail
        first | refine ⟨hC4, ?_⟩ | skip
        change wpAnyH _ _ _ _ _ _ _ _ (Bt D (.slice Bm rr.store.length Bv) (.slice ra1 rr.refs.length rc1) (.int .i64 rr.gen) (.int .i64 rr.phase) (.slice oa1 rr.pend.objects.length oc1) (.slice ua1 rr.pend.updates.length uc1) (.bool rr.pend.force) z3)
        generalize Bt D (.slice Bm rr.store.length Bv) (.slice ra1 rr.refs.length rc1) (.int .i64 rr.gen) (.int .i64 rr.phase) (.slice oa1 rr.pend.objects.length oc1) (.slice ua1 rr.pend.updates.length uc1) (.bool rr.pend.force) z3 = z4 at *
        clear hblk Hu7 p0 p1 p2 p3 p4 p5 p6 q10 q11 q12 q13 q14 q15 q16
        refine al1 18 ?_
        refine Or.inl ?_
        go_wp2_with fail
        first | refine ⟨hC4, by kernel_rfl, ?_⟩ | refine ⟨by kernel_rfl, ?_⟩
        have HEnd := zh (show In Q z4 ∧ x5.heap.size ≤ D ∧ ∃ Bm Bv ra1 rc1 oa1 oc1 ua1 uc1, z4.heap[D]? = some (.cells (c7 rr Bm Bv ra1 rc1 oa1 oc1 ua1 uc1) 28 (0, 0)) ∧ AH (fun b => (((A b ∧ b < w.heap.size) ∨ x5.heap.size ≤ b) ∧ b < z4.heap.size) ∧ b ≠ D) z4 rr (.slice Bm rr.store.length Bv) (.slice ra1 rr.refs.length rc1) (.slice oa1 rr.pend.objects.length oc1) (.slice ua1 rr.pend.updates.length uc1) from ⟨hC4, HDge.out, Bm, Bv, ra1, rc1, oa1, oc1, ua1, uc1, Hb7.out, Hv7.out⟩)
        go_wp2_with fail
        go_meet
        exact ⟨D, rfl, rfl, z4, rfl, HEnd⟩
      obtain rfl : j = 16 := by simpa using hj
      refine Or.inl ?_
      have hC2 := hQ.alloc _ (.cells z7 28) hC1
      go_simp
      have hbA : Below z1.heap.size z1 (z1.alloc (.cells z7 28)) := bal
      have HDb := zh (heap_alloc_new z1 (.cells z7 28))
      have HDge := zh (hQb _ hC1).size
      clear hbA
      generalize z1.heap.size = D at *
      generalize z1.alloc (.cells z7 28) = z2 at *
      refine al1 12 ?_
      refine Or.inl ?_
      go_wp2_with fail
      refine (HRp.out _ hC2).mono ?_
      rintro e x20 ⟨sv1, rv1, ov1, uv1, rfl, hv, hb1⟩
      have hC3 := hQn _ _ hC2 hb1
      obtain ⟨Bm, Bv, rfl⟩ := hv.store.vshape
      obtain ⟨⟨ra1, rc1⟩, rfl⟩ := hv.refs.shape
      obtain ⟨oa1, oc1, rfl⟩ := hv.objs.vshape
      obtain ⟨⟨ua1, uc1⟩, rfl⟩ := hv.upds.shape
      have HDx := zh (show D < z2.heap.size from lt_of_block HDb.out)
      replace HDb := zh (Ak HDb.out hb1)
      have hx9 := (hQb _ hC2).size
      have hws5 := HSz.out _ hR5
      have Hv2 := zh (hv.lt.weaken (S' := fun b => (((A b ∧ b < w.heap.size) ∨ x5.heap.size ≤ b) ∧ b < x20.heap.size) ∧ b ≠ D) fun b hb => ⟨⟨by rcases hb.1 with (h | h) | h; exact .inl h; exact .inl h; exact .inr (by omega), hb.2⟩, fun e => by have := HDx.out; have := HDge.out; rcases hb.1 with (h | h) | h; have := h.2; omega; have := h.2; omega; omega⟩)
      clear hws5
      clear hv hx9
      simp only [Bf]
      go_simp
      clear hb1
      generalize x20 = z3 at *
      refine tk 13 (.tuple #[.agg (c7 rr Bm Bv ra1 rc1 oa1 oc1 ua1 uc1), .int .i64 re]) (fun w hSw => ?_) hC3 ?_
      · go_simp
      simp only [tkS]
      refine tk 14 (.agg (c7 rr Bm Bv ra1 rc1 oa1 oc1 ua1 uc1)) (fun w hSw => ?_) hC3 ?_
      · go_simp
      simp only [tkS]
      refine tk 15 (.int .i64 re) (fun w hSw => ?_) hC3 ?_
      · go_simp
      simp only [tkS]
      refine al1 17 ?_
      refine Or.inl ?_
      have hblk := HDb.out
      have p0 := Aa (j := 0) hblk rfl
      have q10 := Ab (j := 0) hblk
      have p1 := Aa (j := 1) hblk rfl
      have q11 := Ab (j := 1) hblk
      have p2 := Aa (j := 2) hblk rfl
      have q12 := Ab (j := 2) hblk
      have p3 := Aa (j := 3) hblk rfl
      have q13 := Ab (j := 3) hblk
      have p4 := Aa (j := 4) hblk rfl
      have q14 := Ab (j := 4) hblk
      have p5 := Aa (j := 5) hblk rfl
      have q15 := Ab (j := 5) hblk
      have p6 := Aa (j := 6) hblk rfl
      have q16 := Ab (j := 6) hblk
      have Hb7 := zh (Bz (v0 := .slice Bm rr.store.length Bv) (v1 := .slice ra1 rr.refs.length rc1) (v2 := .int .i64 rr.gen) (v3 := .int .i64 rr.phase) (v4 := .slice oa1 rr.pend.objects.length oc1) (v5 := .slice ua1 rr.pend.updates.length uc1) (v6 := .bool rr.pend.force) hblk)
      have Hu7 := zh (AY D (.slice Bm rr.store.length Bv) (.slice ra1 rr.refs.length rc1) (.int .i64 rr.gen) (.int .i64 rr.phase) (.slice oa1 rr.pend.objects.length oc1) (.slice ua1 rr.pend.updates.length uc1) (.bool rr.pend.force) z3)
      have hC4 := HQu.out _ _ _ hC3 Hu7.out (fun b hb => by have := HDge.out; have e2 : b = D := hb; omega)
      have Hv7 := zh ((Hv2.out.upd Hu7.out (fun b hb e => hb.2 e)).weaken (S' := fun b => (((A b ∧ b < w.heap.size) ∨ x5.heap.size ≤ b) ∧ b < (Bt D (.slice Bm rr.store.length Bv) (.slice ra1 rr.refs.length rc1) (.int .i64 rr.gen) (.int .i64 rr.phase) (.slice oa1 rr.pend.objects.length oc1) (.slice ua1 rr.pend.updates.length uc1) (.bool rr.pend.force) z3).heap.size) ∧ b ≠ D) fun b hb => ⟨⟨hb.1.1, by have := hb.1.2; have := Hu7.out.size; omega⟩, hb.2⟩)
      go_wp2_with fail
      first | refine ⟨hC4, ?_⟩ | skip
      change wpAnyH _ _ _ _ _ _ _ _ (Bt D (.slice Bm rr.store.length Bv) (.slice ra1 rr.refs.length rc1) (.int .i64 rr.gen) (.int .i64 rr.phase) (.slice oa1 rr.pend.objects.length oc1) (.slice ua1 rr.pend.updates.length uc1) (.bool rr.pend.force) z3)
      generalize Bt D (.slice Bm rr.store.length Bv) (.slice ra1 rr.refs.length rc1) (.int .i64 rr.gen) (.int .i64 rr.phase) (.slice oa1 rr.pend.objects.length oc1) (.slice ua1 rr.pend.updates.length uc1) (.bool rr.pend.force) z3 = z4 at *
      clear hblk Hu7 p0 p1 p2 p3 p4 p5 p6 q10 q11 q12 q13 q14 q15 q16
      refine al1 18 ?_
      refine Or.inl ?_
      go_wp2_with fail
      first | refine ⟨hC4, by kernel_rfl, ?_⟩ | refine ⟨by kernel_rfl, ?_⟩
      have HEnd := zh (show In Q z4 ∧ x5.heap.size ≤ D ∧ ∃ Bm Bv ra1 rc1 oa1 oc1 ua1 uc1, z4.heap[D]? = some (.cells (c7 rr Bm Bv ra1 rc1 oa1 oc1 ua1 uc1) 28 (0, 0)) ∧ AH (fun b => (((A b ∧ b < w.heap.size) ∨ x5.heap.size ≤ b) ∧ b < z4.heap.size) ∧ b ≠ D) z4 rr (.slice Bm rr.store.length Bv) (.slice ra1 rr.refs.length rc1) (.slice oa1 rr.pend.objects.length oc1) (.slice ua1 rr.pend.updates.length uc1) from ⟨hC4, HDge.out, Bm, Bv, ra1, rc1, oa1, oc1, ua1, uc1, Hb7.out, Hv7.out⟩)
      go_wp2_with fail
      go_meet
      exact ⟨D, rfl, rfl, z4, rfl, HEnd⟩
    obtain rfl : j = 16 := by simpa using hj
    refine Or.inl ?_
    have hC1 := hQ.alloc _ (.cells z7 28) hC0
    go_simp
    have hbA : Below x0.heap.size x0 (x0.alloc (.cells z7 28)) := bal
    have HDb := zh (heap_alloc_new x0 (.cells z7 28))
    have HDge := zh (hQb _ hC0).size
    clear hbA
    generalize x0.heap.size = D at *
    generalize x0.alloc (.cells z7 28) = z1 at *
    refine al1 3 ?_
    refine Or.inl ?_
    go_wp2_with fail
    refine (HBe.out _ hC1).mono ?_
    rintro e x21 ⟨rfl, hb9⟩
    have hC2 := hQn _ _ hC1 hb9
    replace HDb := zh (Ak HDb.out hb9)
    generalize x21 = z2 at *
    clear hb9
    go_simp
    refine tk 4 (.pointer (some ⟨bk, off0 + bi * 7, none⟩)) (fun w hSw => ?_) hC2 ?_
    · go_simp
    simp only [tkS]
    refine tk 5 (.agg (c7 (Af l bi) (fr bi).sa (fr bi).sc (fr bi).ra (fr bi).rc (fr bi).oa (fr bi).oc (fr bi).ua (fr bi).uc)) (fun w hSw => ?_) hC2 ?_
    · have y0 := g0 _ hSw; have y1 := g1 _ hSw; have y2 := g2 _ hSw; have y3 := g3 _ hSw; have y4 := g4 _ hSw; have y5 := g5 _ hSw; have y6 := g6 _ hSw; go_simp
    simp only [tkS]
    refine al1 12 ?_
    refine Or.inl ?_
    go_wp2_with fail
    refine (HRp.out _ hC2).mono ?_
    rintro e x20 ⟨sv1, rv1, ov1, uv1, rfl, hv, hb1⟩
    have hC3 := hQn _ _ hC2 hb1
    obtain ⟨Bm, Bv, rfl⟩ := hv.store.vshape
    obtain ⟨⟨ra1, rc1⟩, rfl⟩ := hv.refs.shape
    obtain ⟨oa1, oc1, rfl⟩ := hv.objs.vshape
    obtain ⟨⟨ua1, uc1⟩, rfl⟩ := hv.upds.shape
    have HDx := zh (show D < z2.heap.size from lt_of_block HDb.out)
    replace HDb := zh (Ak HDb.out hb1)
    have hx9 := (hQb _ hC2).size
    have hws5 := HSz.out _ hR5
    have Hv2 := zh (hv.lt.weaken (S' := fun b => (((A b ∧ b < w.heap.size) ∨ x5.heap.size ≤ b) ∧ b < x20.heap.size) ∧ b ≠ D) fun b hb => ⟨⟨by rcases hb.1 with (h | h) | h; exact .inl h; exact .inl h; exact .inr (by omega), hb.2⟩, fun e => by have := HDx.out; have := HDge.out; rcases hb.1 with (h | h) | h; have := h.2; omega; have := h.2; omega; omega⟩)
    clear hws5
    clear hv hx9
    simp only [Bf]
    go_simp
    clear hb1
    generalize x20 = z3 at *
    refine tk 13 (.tuple #[.agg (c7 rr Bm Bv ra1 rc1 oa1 oc1 ua1 uc1), .int .i64 re]) (fun w hSw => ?_) hC3 ?_
    · go_simp
    simp only [tkS]
    refine tk 14 (.agg (c7 rr Bm Bv ra1 rc1 oa1 oc1 ua1 uc1)) (fun w hSw => ?_) hC3 ?_
    · go_simp
    simp only [tkS]
    refine tk 15 (.int .i64 re) (fun w hSw => ?_) hC3 ?_
    · go_simp
    simp only [tkS]
    refine al1 17 ?_
    refine Or.inl ?_
    have hblk := HDb.out
    have p0 := Aa (j := 0) hblk rfl
    have q10 := Ab (j := 0) hblk
    have p1 := Aa (j := 1) hblk rfl
    have q11 := Ab (j := 1) hblk
    have p2 := Aa (j := 2) hblk rfl
    have q12 := Ab (j := 2) hblk
    have p3 := Aa (j := 3) hblk rfl
    have q13 := Ab (j := 3) hblk
    have p4 := Aa (j := 4) hblk rfl
    have q14 := Ab (j := 4) hblk
    have p5 := Aa (j := 5) hblk rfl
    have q15 := Ab (j := 5) hblk
    have p6 := Aa (j := 6) hblk rfl
    have q16 := Ab (j := 6) hblk
    have Hb7 := zh (Bz (v0 := .slice Bm rr.store.length Bv) (v1 := .slice ra1 rr.refs.length rc1) (v2 := .int .i64 rr.gen) (v3 := .int .i64 rr.phase) (v4 := .slice oa1 rr.pend.objects.length oc1) (v5 := .slice ua1 rr.pend.updates.length uc1) (v6 := .bool rr.pend.force) hblk)
    have Hu7 := zh (AY D (.slice Bm rr.store.length Bv) (.slice ra1 rr.refs.length rc1) (.int .i64 rr.gen) (.int .i64 rr.phase) (.slice oa1 rr.pend.objects.length oc1) (.slice ua1 rr.pend.updates.length uc1) (.bool rr.pend.force) z3)
    have hC4 := HQu.out _ _ _ hC3 Hu7.out (fun b hb => by have := HDge.out; have e2 : b = D := hb; omega)
    have Hv7 := zh ((Hv2.out.upd Hu7.out (fun b hb e => hb.2 e)).weaken (S' := fun b => (((A b ∧ b < w.heap.size) ∨ x5.heap.size ≤ b) ∧ b < (Bt D (.slice Bm rr.store.length Bv) (.slice ra1 rr.refs.length rc1) (.int .i64 rr.gen) (.int .i64 rr.phase) (.slice oa1 rr.pend.objects.length oc1) (.slice ua1 rr.pend.updates.length uc1) (.bool rr.pend.force) z3).heap.size) ∧ b ≠ D) fun b hb => ⟨⟨hb.1.1, by have := hb.1.2; have := Hu7.out.size; omega⟩, hb.2⟩)
    go_wp2_with fail
    first | refine ⟨hC4, ?_⟩ | skip
    change wpAnyH _ _ _ _ _ _ _ _ (Bt D (.slice Bm rr.store.length Bv) (.slice ra1 rr.refs.length rc1) (.int .i64 rr.gen) (.int .i64 rr.phase) (.slice oa1 rr.pend.objects.length oc1) (.slice ua1 rr.pend.updates.length uc1) (.bool rr.pend.force) z3)
    generalize Bt D (.slice Bm rr.store.length Bv) (.slice ra1 rr.refs.length rc1) (.int .i64 rr.gen) (.int .i64 rr.phase) (.slice oa1 rr.pend.objects.length oc1) (.slice ua1 rr.pend.updates.length uc1) (.bool rr.pend.force) z3 = z4 at *
    clear hblk Hu7 p0 p1 p2 p3 p4 p5 p6 q10 q11 q12 q13 q14 q15 q16
    refine al1 18 ?_
    refine Or.inl ?_
    go_wp2_with fail
    first | refine ⟨hC4, by kernel_rfl, ?_⟩ | refine ⟨by kernel_rfl, ?_⟩
    have HEnd := zh (show In Q z4 ∧ x5.heap.size ≤ D ∧ ∃ Bm Bv ra1 rc1 oa1 oc1 ua1 uc1, z4.heap[D]? = some (.cells (c7 rr Bm Bv ra1 rc1 oa1 oc1 ua1 uc1) 28 (0, 0)) ∧ AH (fun b => (((A b ∧ b < w.heap.size) ∨ x5.heap.size ≤ b) ∧ b < z4.heap.size) ∧ b ≠ D) z4 rr (.slice Bm rr.store.length Bv) (.slice ra1 rr.refs.length rc1) (.slice oa1 rr.pend.objects.length oc1) (.slice ua1 rr.pend.updates.length uc1) from ⟨hC4, HDge.out, Bm, Bv, ra1, rc1, oa1, oc1, ua1, uc1, Hb7.out, Hv7.out⟩)
    go_wp2_with fail
    go_meet
    exact ⟨D, rfl, rfl, z4, rfl, HEnd⟩
  obtain ⟨D9, rfl, rfl, y9, rfl, HK9⟩ := hcut
  obtain ⟨hQ9, hD9, Bm, Bv, ra1, rc1, oa1, oc1, ua1, uc1, hb9, hv9⟩ := HK9.out
  have HDb := zh hb9
  have Hv9 := zh hv9
  have HR9 := zh (HQR.out _ hQ9)
  clear HK9 hb9 hv9 HBe HRp e0 e1 e2 e3 e4 e5 e6 g0 g1 g2 g3 g4 g5 g6
  by_cases hz : re = 0
  case neg =>
    have q9 : (re != 0) = true := by simpa using hz
    have HE2 := HE
    have HL2 := zh (show Gk l a = [] by rw [Hdl.out, HE.out, if_neg hz])
    have HD2 := zh (show JP l a = false by rw [Hdd.out, HE.out, if_neg hz])
    clear hz HE HL HD Hdl Hdd
    have HZW := zh (HZ.out _ HR9.out)
    have HBW := zh (hRb _ HR9.out)
    have gz := Aa (j := 0) HZW.out rfl
    have fz := Ab (j := 0) HZW.out
    go_wp2_with fail
    have hu5 : Av (fun b => b = w.heap.size + 2) y9 (y9.setCell ⟨w.heap.size + 2, 0, none⟩ (.slice none 0 0)) := (Av.refl (fun b => b = w.heap.size + 2) y9).setCell (p := ⟨w.heap.size + 2, 0, none⟩) (fun _ => rfl) _
    have hk5 : (y9.setCell ⟨w.heap.size + 2, 0, none⟩ (.slice none 0 0)).heap[w.heap.size + 2]? = some (.cells #[.slice none 0 0] 66 (0, 0)) := Ad (j := 0) HZW.out (.slice none 0 0)
    have hB5 := HBW.out.trans (hu5.below (B := w.heap.size) HBW.out.size (fun b hb => by have e2 : b = w.heap.size + 2 := hb; omega))
    generalize y9.setCell ⟨w.heap.size + 2, 0, none⟩ (.slice none 0 0) = x5 at *
    have k0 := Aa (j := 0) hk5 rfl
    refine bodyPost_ret (v := .tuple #[.agg #[.slice none 0 0], .bool false, .int .i64 re]) (by simp [results, Tryz.results41, go_sem]; simp [k0] <;> rfl) rfl ?_
    refine ⟨_, by rw [HD2.out, HE2.out] <;> rfl, by rw [HL2.out]; exact AJ.nil _ _ _ _ (by omega), hB5⟩
  have HE2 := zh (HE.out.trans hz)
  have HL2 := zh (show Gk l a = l.set i rr by rw [Hdl.out, if_pos HE2.out, HL.out])
  have HD2 := zh (show JP l a = true by rw [Hdd.out, if_pos HE2.out, HD.out])
  have q9 : (re != 0) = false := by simpa using hz
  rw [hz]
  rw [hz] at q9
  clear hz HE HL HD Hdl Hdd
  have hyb := hQb _ hQ9
  have hOy := HO5.out.below hyb
  have d5 := Ai hyb (Aa (j := 0) HD5.out rfl)
  have f1x := (show y9.cell? ⟨w.heap.size + 1, 1, none⟩ = some (.int .i64 (i : Int)) from d1 _ hQ9)
  obtain ⟨a9, n9, cap9, fr9, HN9, e9, _, _, _, h49, h59⟩ := (hOy.any (by have := HL3.out; omega)).open
  cases e9
  obtain ⟨b9, off9, e9, _, k0, k1, k2, k3, k4, k5, k6⟩ := h49 (by omega)
  cases e9
  simp only [Nat.zero_add] at k0 k1 k2 k3 k4 k5 k6
  have o0 := k0 i _ hi3 (Below.refl _ _)
  have o1 := k1 i _ hi3 (Below.refl _ _)
  have o2 := k2 i _ hi3 (Below.refl _ _)
  have o3 := k3 i _ hi3 (Below.refl _ _)
  have o4 := k4 i _ hi3 (Below.refl _ _)
  have o5 := k5 i _ hi3 (Below.refl _ _)
  have o6 := k6 i _ hi3 (Below.refl _ _)
  have f0 := hOy.free (i * 7)
  have f1 := hOy.free (i * 7 + 1)
  have f2 := hOy.free (i * 7 + 2)
  have f3 := hOy.free (i * 7 + 3)
  have f4 := hOy.free (i * 7 + 4)
  have f5 := hOy.free (i * 7 + 5)
  have f6 := hOy.free (i * 7 + 6)
  clear h49 h59 HN9 k0 k1 k2 k3 k4 k5 k6
  have r0 := Aa (j := 0) HDb.out rfl
  have r1 := Aa (j := 1) HDb.out rfl
  have r2 := Aa (j := 2) HDb.out rfl
  have r3 := Aa (j := 3) HDb.out rfl
  have r4 := Aa (j := 4) HDb.out rfl
  have r5 := Aa (j := 5) HDb.out rfl
  have r6 := Aa (j := 6) HDb.out rfl
  have hzz := Hz5.out
  have hset := hOy.set (i := i) (r := rr) (x := ⟨.slice Bm rr.store.length Bv, .slice ra1 rr.refs.length rc1, .slice oa1 rr.pend.objects.length oc1, .slice ua1 rr.pend.updates.length uc1⟩) (show i < l.length by rw [HL3.out]; exact hi3) (S2 := fun b => (((A b ∧ b < w.heap.size) ∨ x5.heap.size ≤ b) ∧ b < y9.heap.size) ∧ b ≠ D9) Hv9.out (fun b hb => ⟨hb.1.2, fun e => by rcases hb.1.1 with h | h <;> omega⟩)
  obtain ⟨w9, hw9⟩ : ∃ w9, w9 = y9.setCells g (i * 7) (BA rr ⟨.slice Bm rr.store.length Bv, .slice ra1 rr.refs.length rc1, .slice oa1 rr.pend.objects.length oc1, .slice ua1 rr.pend.updates.length uc1⟩) := ⟨_, rfl⟩
  rw [← hw9] at hset
  have HO9 := zh (show BD (fun b => ((A b ∧ b < w.heap.size) ∨ w.heap.size + 3 ≤ b) ∧ b ≠ g ∧ b < w9.heap.size) (w.heap.size + 3) w9 (.slice (some ⟨g, 0, none⟩) 3 c4) (l.set i rr) from by
    have hz := hset.2.size
    have hz1 := hyb.size
    refine hset.1.weaken (fun b hb => ?_) (fun b hb => ⟨hb.2.2, fun e => hb.2.1 (by cases e; rfl)⟩) (Nat.le_refl _)
    rcases hb with hb | hb
    · exact ⟨hb.1, hb.2.1, by omega⟩
    · exact ⟨hb.1.1.imp id (fun h => by omega), (fun e => by rcases hb.1.1 with h | h <;> omega), by omega⟩)
  have HZW := zh (hset.2.blk (HZ.out _ HR9.out) (fun e => by have e2 : w.heap.size + 2 = g := e; omega))
  have HBW := zh ((hRb _ HR9.out).trans (hset.2.below (B := w.heap.size) (hRb _ HR9.out).size (fun b hb => by have e2 : b = g := hb; omega)))
  have HDD := zh (hset.2.cell d5 (fun e => by have e2 : D5 = g := e; omega))
  rw [show BA rr ⟨.slice Bm rr.store.length Bv, .slice ra1 rr.refs.length rc1, .slice oa1 rr.pend.objects.length oc1, .slice ua1 rr.pend.updates.length uc1⟩ = [.slice Bm rr.store.length Bv, .slice ra1 rr.refs.length rc1, .int .i64 rr.gen, .int .i64 rr.phase, .slice oa1 rr.pend.objects.length oc1, .slice ua1 rr.pend.updates.length uc1, .bool rr.pend.force] from rfl, OO] at hw9
  have Hw9 := zh hw9
  clear hset hw9 hOy
  go_upto_region 17 with fail
  rw [← Hw9.out]
  clear o0 o1 o2 o3 o4 o5 o6 f0 f1 f2 f3 f4 f5 f6 r0 r1 r2 r3 r4 r5 r6 d5 f1x
  have d9 := HDD.out
  have gz := Aa (j := 0) HZW.out rfl
  have fz := Ab (j := 0) HZW.out
  go_wp2_with fail
  have hu5 : Av (fun b => b = w.heap.size + 2) w9 (w9.setCell ⟨w.heap.size + 2, 0, none⟩ (.slice (some ⟨g, 0, none⟩) 3 c4)) := (Av.refl (fun b => b = w.heap.size + 2) w9).setCell (p := ⟨w.heap.size + 2, 0, none⟩) (fun _ => rfl) _
  have hk5 : (w9.setCell ⟨w.heap.size + 2, 0, none⟩ (.slice (some ⟨g, 0, none⟩) 3 c4)).heap[w.heap.size + 2]? = some (.cells #[.slice (some ⟨g, 0, none⟩) 3 c4] 66 (0, 0)) := Ad (j := 0) HZW.out (.slice (some ⟨g, 0, none⟩) 3 c4)
  have hB5 := HBW.out.trans (hu5.below (B := w.heap.size) HBW.out.size (fun b hb => by have e2 : b = w.heap.size + 2 := hb; omega))
  have hO7 := HO9.out.upd hu5 (fun b hb e => by have e2 : b = w.heap.size + 2 := e; rcases hb.1 with h | h <;> omega) (fun q hq e => by have e2 : q = w.heap.size + 2 := e; simp [Value.ownBlock] at hq; omega)
  generalize w9.setCell ⟨w.heap.size + 2, 0, none⟩ (.slice (some ⟨g, 0, none⟩) 3 c4) = x5 at *
  have k0 := Aa (j := 0) hk5 rfl
  refine bodyPost_ret (v := .tuple #[.agg #[.slice (some ⟨g, 0, none⟩) 3 c4], .bool true, .int .i64 0]) (by simp [results, Tryz.results41, go_sem]; simp [k0] <;> rfl) rfl ?_
  refine ⟨_, by rw [HD2.out, HE2.out] <;> rfl, by rw [HL2.out]; exact hO7.reps (S' := fun b => A b ∨ w.heap.size ≤ b) (by rw [List.length_set, HL3.out]; omega) (fun b hb => hb.1.elim (fun h => .inl h.1) (fun h => .inr (by omega))) (fun b hb => by simp [Value.ownBlock] at hb; exact .inr (by omega)), hB5⟩
end Go.Proofs.YtjdgpgfiomnjkaaGreatDoor
