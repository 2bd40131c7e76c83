/- ClusA: walks of cluster. -/
import Derived.Test.YtjdgpgfiomnjkaaGreatDoorR22
set_option linter.all false
set_option maxHeartbeats 8000000
set_option maxRecDepth 100000
namespace Go.Proofs.YtjdgpgfiomnjkaaGreatDoor
open Go.RowKit
theorem WR : ∀ (k : Fin 8) (i : Fin 3), (bits BinOp.and IntKind.i64 ((k.1 : Int) / 2 ^ min i.1 64) 1 == 0) = (!DM (k.1 : Int) i.1) ∧ (bits BinOp.and IntKind.i64 ((k.1 : Int) / 2 ^ min i.1 64) 1 == 1) = DM (k.1 : Int) i.1 := by decide +kernel
theorem SI {n : Int} {i : Nat} (h : 0 ≤ n ∧ n ≤ 7) (hi : i < 3) : (bits BinOp.and IntKind.i64 (n / 2 ^ min i 64) 1 == 0) = (!DM n i) ∧ (bits BinOp.and IntKind.i64 (n / 2 ^ min i 64) 1 == 1) = DM n i := by
 obtain ⟨k, rfl⟩ : ∃ k : Nat, n = (k : Int) := ⟨n.toNat, by omega⟩
 exact WR ⟨k, by omega⟩ ⟨i, hi⟩
theorem Lc (M i : Nat) (vv : Value) (vs : List ByteArray) (t : ByteArray) (late : Int) (S : Nat → Prop) (w : World) (c1 : w.cell? ⟨M, 1, none⟩ = some vv) (c2 : w.cell? ⟨M, 2, none⟩ = some (.string t)) (hv : Dc S w vv vs) (hi : i < vs.length) (hl : 0 ≤ late ∧ late ≤ 7) (hn : vs.length ≤ 3) :
  Calls Tryz.prog 250 #[.pointer (some ⟨M, 0, none⟩), .int .i64 (i : Int), .int .i64 late] w fun e w' => e = .returned (.bool (((sa vs i).toList == t.toList) && !DM late i)) ∧ Below w.heap.size w w' := by
 obtain ⟨a, n, cap, HN, rfl, h1, h2, h3, h4⟩ := hv.open
 obtain ⟨b, off, rfl, _, h5⟩ := h4 (by have := HN.out; omega)
 have hin : i < n := by have := HN.out; omega
 have i1 : (0 : Int) ≤ (i : Int) := by omega
 have i2 : (i : Int) < (n : Int) := by omega
 have x0 := h5 i w hin (Below.refl _ _)
 have HL := zh hl
 have HNn := zh hn
 clear hv hi hl hn h4 h5 h1 h2 h3
 generalize sa vs i = s at *
 have Hb := zh (SI (n := late) (i := i) HL.out (by have := HNn.out; have := HN.out; omega)).1
 cases hq : (s.toList == t.toList)
 all_goals
  go_enter Tryz.func250, Tryz.ntmps250
  go_wp2_with fail
  go_quiet (fail)
  generalize hw2 : w.drewN _ = w2
  have HE := zh (show Below w.heap.size w w2 by rw [← hw2]; exact Cv w _ _ (Below.refl _ _))
  clear hw2
  go_wp2_with fail
  go_ret
 ·exact ⟨rfl, HE.out⟩
 ·exact ⟨by rw [Hb.out]; rfl, HE.out⟩
def Mj (B : Nat) (w : World) (v : Value) (l : List ByteArray) : Prop := w.ownsRow B 9 1 v l.length (l.map Value.string) ∧ ∀ s ∈ l, s.size ≤ 140737488351232
theorem Mj.below {B : Nat} {w w' : World} {v : Value} {l : List ByteArray} (h : Mj B w v l) (hb : Below w.heap.size w w') : Mj B w' v l := ⟨AS h.1 hb, h.2⟩
theorem Mj.upd {T : Nat → Prop} {B : Nat} {w w' : World} {v : Value} {l : List ByteArray} (h : Mj B w v l) (hu : Aq T w w') (hT : ∀ g, v.ownBlock = some g → ¬ T g) : Mj B w' v l := ⟨CY h.1 hu hT, h.2⟩
theorem Mj.strs {B : Nat} {w : World} {v : Value} {l : List ByteArray} (h : Mj B w v l) (hl : l.length ≤ 3) : Dc (fun b => B ≤ b) w v l := Vr h.1 rfl h.2 (by omega)
def Cq (B g c M : Nat) (w : World) (L : List An) (vs : List ByteArray) (t : ByteArray) : Prop :=
 ∃ (F : Nat → Prop) (vv : Value), BA F B w (.slice (some ⟨g, 0, none⟩) L.length c) L ∧ Mj B w vv vs ∧ (∀ b, F b → B ≤ b ∧ b ≠ M ∧ vv.ownBlock ≠ some b) ∧ vv.ownBlock ≠ some M ∧ vv.ownBlock ≠ some g ∧ g ≠ M ∧
  w.heap[M]? = some (.cells #[.slice (some ⟨g, 0, none⟩) L.length c, vv, .string t] 238 (0, 0))
theorem Cq.below {B g c M : Nat} {w w' : World} {L : List An} {vs : List ByteArray} {t : ByteArray} (h : Cq B g c M w L vs t) (hb : Below w.heap.size w w') : Cq B g c M w' L vs t := by
 obtain ⟨F, vv, h1, h2, h3, h4, h5, h6, h7⟩ := h
 exact ⟨F, vv, h1.below hb, h2.below hb, h3, h4, h5, h6, (hb.block _ (lt_of_block h7)).trans h7⟩
def Ie (vs : List ByteArray) (t : ByteArray) (ok : Bool) (late : Int) : Nat → Nat
 | 0 => 0
 | k + 1 => Ie vs t ok late k + if (ok && (((sa vs k).toList == t.toList) && !DM late k)) = true then 1 else 0
theorem Pd (vs : List ByteArray) (t : ByteArray) (ok : Bool) (late : Int) : ∀ k, Ie vs t ok late k ≤ k
 | 0 => Nat.le_refl _
 | k + 1 => by have := Pd vs t ok late k; unfold Ie; split <;> omega
def SQ (M : Nat) (late : Int) (w : World) (f : Value) : Prop := ∃ p q : Nat, f = .func (.func 251) #[] #[.pointer (some ⟨p, 0, none⟩), .pointer (some ⟨q, 0, none⟩)] ∧ w.heap[p]? = some (.cells #[.pointer (some ⟨M, 0, none⟩)] 236 (0, 0)) ∧ w.heap[q]? = some (.cells #[.int .i64 late] 3 (0, 0))
theorem RW (g c M B : Nat) (w : World) (L : List An) (vs : List ByteArray) (t0 : ByteArray) (late : Int) (hM : Cq B g c M w L vs t0) (h3 : vs.length = 3) (hl : 0 ≤ late ∧ late ≤ 7) (hBM : B ≤ M) :
  Calls Tryz.prog 218 #[.pointer (some ⟨M, 0, none⟩), .int .i64 late] w fun e w' => ∃ f, e = .returned f ∧ Below B w w' ∧ Cq B g c M w' L vs (CN vs).1 ∧ (¬ 2 ≤ Ie vs (CN vs).1 (CN vs).2 late 3 → f = .nilFunc) ∧ (2 ≤ Ie vs (CN vs).1 (CN vs).2 late 3 → SQ M late w' f) := by
 have HM := zh hM
 obtain ⟨F, vv, hO, hV, hF, hvM, hvg, hgM, hMb⟩ := hM
 have hMs : M < w.heap.size := lt_of_block hMb
 have HO := zh hO
 have HV := zh hV
 have HF := zh hF
 have HvM := zh hvM
 have Hvg := zh hvg
 have HgM := zh hgM
 have HMb := zh hMb
 have H3 := zh h3
 have HLt := zh hl
 obtain ⟨⟨va, vc⟩, hvv⟩ := (hV.strs (by omega)).shape
 obtain ⟨n, hn⟩ : ∃ n : Nat, n = 3 := ⟨3, rfl⟩
 clear hO hV hF hvM hvg hgM h3 hl HM
 obtain ⟨R, hR, hR1, HB0⟩ := AL w [.cells #[.pointer (some ⟨M, 0, none⟩)] 236, .cells #[.int .i64 late] 3]
 simp only [List.foldl] at hR1
 have hRb := hR.below
 have hRn := hR.next
 have q2 := fun x (hx : In R x) => Aa (j := 0) (HB0 x hx 0 _ rfl) rfl
 have q3 := fun x (hx : In R x) => Aa (j := 0) (HB0 x hx 1 _ rfl) rfl
 simp only [Nat.add_zero] at q2 q3
 have m1 := fun x (hx : In R x) => Ah (hRb _ hx) (Aa (j := 1) hMb rfl)
 have HC := zh (Ui vs vv _ _ ((HV.out.strs (by have := H3.out; omega)).below (hRb _ hR1)))
 have Hvv := zh hvv
 subst hvv
 simp only [H3.out] at m1 HC
 clear hMb Hvv
 obtain ⟨told, htold⟩ : ∃ told, told = (CN vs).1 := ⟨_, rfl⟩
 obtain ⟨ok, hok⟩ : ∃ ok, ok = (CN vs).2 := ⟨_, rfl⟩
 rw [← htold, ← hok] at HC ⊢
 clear htold hok
 go_enter Tryz.func218, Tryz.ntmps218
 go_wp2_with fail
 refine HC.out.mono ?_
 rintro e x1 ⟨rfl, hb1⟩
 have hRx := hRn _ _ hR1 hb1
 have hbx := hRb _ hRx
 have hMx := (hbx.block _ hMs).trans HMb.out
 have j2 := Aa (j := 2) hMx rfl
 have f2 := Ab (j := 2) hMx
 have hU : Aq (fun b => b = M) x1 (x1.setCell ⟨M, 2, none⟩ (.string told)) := (Aq.refl (fun b => b = M) _).setCell (p := ⟨M, 2, none⟩) (fun _ => rfl) _
 have hM2 := Ad (j := 2) hMx (.string told)
 simp only [List.setIfInBounds_toArray, List.set_cons_zero, List.set_cons_succ] at hM2
 have b2 := HB0 x1 hRx 0 _ rfl
 have b3 := HB0 x1 hRx 1 _ rfl
 simp only [Nat.add_zero] at b2
 have k2 := hU.blk b2 (by omega)
 have k3 := hU.blk b3 (by omega)
 obtain ⟨T, hT, hT1, _⟩ := Ax (x1.setCell ⟨M, 2, none⟩ (.string told))
 have hTb := hT.below
 have hTn := hT.next
 have s2 := fun x (hx : In T x) => Ah (hTb _ hx) (Aa (j := 0) k2 rfl)
 have s3 := fun x (hx : In T x) => Ah (hTb _ hx) (Aa (j := 0) k3 rfl)
 have Hk := zh (fun x (hx : In T x) => And.intro (((hTb _ hx).block _ (lt_of_block k2)).trans k2) (((hTb _ hx).block _ (lt_of_block k3)).trans k3))
 have s1 := fun x (hx : In T x) => Ah (hTb _ hx) (Aa (j := 1) hM2 rfl)
 have s4 := fun x (hx : In T x) => Ah (hTb _ hx) (Aa (j := 2) hM2 rfl)
 have hVx := (HV.out.below hbx).upd hU (fun q hq e => HvM.out (by rw [hq, e]))
 have HC2 := zh (fun x (hx : In T x) (k : Nat) (hk : k < 3) => Lc M k (.slice va vs.length vc) vs told late _ x (s1 x hx) (s4 x hx) ((hVx.strs (by have := H3.out; omega)).below (hTb _ hx)) (by rw [H3.out]; exact hk) HLt.out (by rw [H3.out]; exact Nat.le_refl _))
 have HLd := zh (show Cq B g c M (x1.setCell ⟨M, 2, none⟩ (.string told)) L vs told from ⟨F, _, (HO.out.below hbx).upd hU (fun b hb e => (HF.out b hb).2.1 e) (fun q hq e => by simp only [Value.ownBlock, Option.some.injEq] at hq; exact HgM.out (hq.trans e)), hVx, HF.out, HvM.out, Hvg.out, HgM.out, hM2⟩)
 have HBw := zh ((hbx.mono (show B ≤ w.heap.size by omega)).trans (hU.below (B := B) (by have := hbx.size; omega) (fun b hb => by subst hb; exact hBM)))
 have z1 := s1 _ hT1
 have z2 := s2 _ hT1
 have z3 := s3 _ hT1
 simp only [H3.out] at s1 z1
 clear hVx hU hM2 k2 k3 b2 b3 hMx hbx HC hb1 s4
 go_wp2_with fail
 generalize x1.setCell ⟨M, 2, none⟩ (.string told) = x2 at *
 clear j2 f2 m1 q2 q3 hRx z1 z2 z3
 go_loopw [26, 7] (fun a b wr => ∃ k : Nat, k ≤ 3 ∧ a = .int .i64 k ∧ b = .int .i64 (Ie vs told ok late k) ∧ In T wr) (fun a _ _ => 3 - (intOf a).toNat)
 case atStart => exact ⟨0, by omega, rfl, rfl, hT1⟩
 obtain ⟨k, hk, rfl, rfl, hTr⟩ := hrel
 by_cases hlt : k < 3
 case neg =>
  obtain rfl : k = 3 := by omega
  have hc := Pd vs told ok late 3
  have HNe : Hid (∃ N, N = Ie vs told ok late 3) := ⟨_, rfl⟩
  obtain ⟨N, hN⟩ := HNe.out
  rw [← hN] at hc ⊢
  have HNe := zh hN
  clear hN
  have HLe := zh (HLd.out.below (hTb _ hTr))
  have HBe := zh (HBw.out.trans ((hTb _ hTr).mono (show B ≤ x2.heap.size by have := HBw.out.size; omega)))
  have hw := Bd (n := 2 * (N : Int)) (by omega)
  have y2 := s2 _ hTr
  have y3 := s3 _ hTr
  by_cases h2 : 2 ≤ N
  case pos =>
   have hq : decide (2 * (N : Int) ≤ 3) = false := by simp; omega
   have H2 := zh h2
   have Hy := zh (Hk.out _ hTr)
   clear h2 hc
   go_wp2_with fail
   go_ret
   exact ⟨_, rfl, HBe.out, HLe.out, fun h => absurd H2.out (by rw [HNe.out]; exact h), fun _ => ⟨_, _, rfl, Hy.out.1, Hy.out.2⟩⟩
  have hq : decide (2 * (N : Int) ≤ 3) = true := by simp; omega
  have H2 := zh h2
  clear h2 hc
  go_wp2_with fail
  go_ret
  exact ⟨_, rfl, HBe.out, HLe.out, fun _ => rfl, fun h => absurd (by rw [HNe.out]; exact h) H2.out⟩
 have Hn := zh (show Ie vs told ok late (k + 1) = Ie vs told ok late k + if (ok && (((sa vs k).toList == told.toList) && !DM late k)) = true then 1 else 0 from rfl)
 have hc := Pd vs told ok late k
 have y2 := s2 _ hTr
 have y3 := s3 _ hTr
 have HCk := zh (HC2.out _ hTr k hlt)
 have hwn := Bd (n := (Ie vs told ok late k : Int) + 1) (by omega)
 cases ok
 case false =>
  have Hr := zh (show Ie vs told false late (k + 1) = Ie vs told false late k by rw [Hn.out, Bool.false_and, if_neg (by decide)]; rfl)
  generalize Ie vs told false late k = N at *
  clear Hn hc
  go_wp2_with fail
  go_roundw
  case rel => exact ⟨k + 1, by omega, by go_num, by rw [Hr.out], hTr⟩
  case measure => simp [intOf]; omega
 generalize hbb : (((sa vs k).toList == told.toList) && !DM late k) = bb at *
 rw [Bool.true_and] at Hn
 generalize Ie vs told true late k = N at *
 clear hbb
 go_wp2_with fail
 refine HCk.out.mono ?_
 rintro e y ⟨rfl, hby⟩
 have hTy := hTn _ _ hTr hby
 clear hby HCk
 cases bb
 case false =>
  have Hr := zh (show Ie vs told true late (k + 1) = N by rw [Hn.out, if_neg (by decide)]; rfl)
  clear Hn hc
  go_wp2_with fail
  go_roundw
  case rel => exact ⟨k + 1, by omega, by go_num, by rw [Hr.out], hTy⟩
  case measure => simp [intOf]; omega
 have Hr := zh (show Ie vs told true late (k + 1) = N + 1 by rw [Hn.out, if_pos rfl])
 clear Hn hc
 go_wp2_with fail
 go_roundw
 case rel => exact ⟨k + 1, by omega, by go_num, by rw [Hr.out]; go_num, hTy⟩
 case measure => simp [intOf]; omega
end Go.Proofs.YtjdgpgfiomnjkaaGreatDoor
