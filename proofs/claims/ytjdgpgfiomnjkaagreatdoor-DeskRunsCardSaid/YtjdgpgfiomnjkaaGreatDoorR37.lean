/- DeskJ: walks of forestaylaw. -/
import Derived.Test.YtjdgpgfiomnjkaaGreatDoorR36
set_option linter.all false
set_option maxHeartbeats 16000000
set_option maxRecDepth 100000
namespace Go.Proofs.YtjdgpgfiomnjkaaGreatDoor
open Go.RowKit
def bB : ByteArray := ⟨#[98]⟩
def bP : BJ := ⟨[], [⟨bB, 0, 3⟩], false⟩
def Jr : Ac := ⟨1, 0, 7, 4, CT⟩
def Bm : Ac := ⟨1, 0, 6, 0, bP⟩
def Lp : Ac := ⟨2, 2, 0, 0, Db⟩
def XU : Ac := ⟨3, 3, 0, 0, Db⟩
def Bi : List Ac := [Jr, Bm, Lp, Bm, XU]
def Yj : An := ⟨Jz.take 3, [⟨bB, 3⟩, ⟨US, 3⟩], 2, 0, Db⟩
def Gy : List An := [JC, Yj, Yj]
theorem Bs : DV Pe Jr = QN := (Dx _ _).1 (by decide +kernel)
theorem NC : DV QN Bm = QN := (Dx _ _).1 (by decide +kernel)
theorem YD : DV QN Lp = [JC, JC, JC] := (Dx _ _).1 (by decide +kernel)
theorem YE : DV [JC, JC, JC] Bm = Gy := (Dx _ _).1 (by decide +kernel)
theorem Eg : DV Gy XU = Gy := (Dx _ _).1 (by decide +kernel)
theorem Yz : Ff Pe Jr = true := by decide +kernel
theorem YB : Ff QN Bm = false := by decide +kernel
theorem YH : Ff QN Lp = true := by decide +kernel
theorem YA : Ff [JC, JC, JC] Bm = true := by decide +kernel
theorem YF : Ff Gy XU = false := by decide +kernel
theorem YC : DN Gy XU = 3 := by decide +kernel
theorem sd : Xv Gy ⟨2, 0, 0, 0, Db⟩ = 0 ∧ Ye Gy ⟨2, 0, 0, 0, Db⟩ = true ∧ (XN Gy ⟨2, 0, 0, 0, Db⟩).length = 3 ∧ (Ai (XN Gy ⟨2, 0, 0, 0, Db⟩) 0).gen = 2 := by decide +kernel
theorem ss : Dy Gy = 0 ∧ Wo Gy = ⟨#[50, 58, 98, 61, 51, 59, 109, 97, 105, 110, 61, 51, 59]⟩ := by decide +kernel
theorem Yl : CV Bi 1 = QN := Bs
theorem Yh : CV Bi 2 = QN := by rw [show CV Bi 2 = DV (CV Bi 1) Bm from rfl, Yl, NC]
theorem Yg : CV Bi 3 = [JC, JC, JC] := by rw [show CV Bi 3 = DV (CV Bi 2) Lp from rfl, Yh, YD]
theorem XK : CV Bi 4 = Gy := by rw [show CV Bi 4 = DV (CV Bi 3) Bm from rfl, Yg, YE]
theorem Yp : CV Bi 5 = Gy := by rw [show CV Bi 5 = DV (CV Bi 4) XU from rfl, XK, Eg]
theorem Yq : Ft Bi 5 = [true, false, true, true, false] := by
 show [Ff Pe Jr] ++ [Ff (CV Bi 1) Bm] ++ [Ff (CV Bi 2) Lp] ++ [Ff (CV Bi 3) Bm] ++ [Ff (CV Bi 4) XU] = _
 rw [Yl, Yh, Yg, XK, Yz, YB, YH, YA, YF]; rfl
theorem Ys : ∃ l : List Int, l.length = 4 ∧ EH Bi 5 = l ++ [3] := ⟨EH Bi 4, IS _ _, by rw [show EH Bi 5 = EH Bi 4 ++ [DN (CV Bi 4) XU] from rfl, XK, YC]⟩
theorem Rn (w : World) : Calls Tryz.prog 109 #[] w fun e w' => ∃ v, e = .returned v ∧ FC (fun b => w.heap.size ≤ b) w' v Bi ∧ Below w.heap.size w w' := by
 go_enter Tryz.func109, Tryz.ntmps109
 go_wp2_with fail
 refine (UB _).mono ?_
 rintro e w1 ⟨ov, uv, rfl, ho, hu, hb1⟩
 obtain ⟨oa, oc, rfl⟩ := ho.vshape
 obtain ⟨⟨ua, uc⟩, rfl⟩ := hu.shape
 have Ho := zh ho
 have Hu := zh hu
 have HB1 := zh hb1
 clear ho hu hb1
 simp only [Fe, show CT.force = false from rfl]
 go_wp2_with fail
 have hz1 : (w1.alloc (.cells #[.string ⟨#[98]⟩, .int .i64 0, .int .i64 3] 107)).heap.size = w1.heap.size + 1 := by simp
 have hz2 : ((w1.alloc (.cells #[.string ⟨#[98]⟩, .int .i64 0, .int .i64 3] 107)).alloc (.cells #[.string ⟨#[98]⟩, .int .i64 0, .int .i64 3] 107)).heap.size = w1.heap.size + 1 + 1 := by simp
 have hU1 : AM (fun b => b = w1.heap.size) (w1.alloc (.cells #[.string ⟨#[98]⟩, .int .i64 0, .int .i64 3] 107)) (.slice (some ⟨w1.heap.size, 0, none⟩) 1 1) bP.updates := OM w1 bP.updates 107 w1.heap.size rfl (by decide) (fun u hu => by
  simp only [bP, List.mem_cons, List.not_mem_nil, or_false] at hu
  subst hu
  exact ⟨AJ _ (by decide), AJ _ (by decide), by decide⟩)
 have hU2 : AM (fun b => b = w1.heap.size + 1) ((w1.alloc (.cells #[.string ⟨#[98]⟩, .int .i64 0, .int .i64 3] 107)).alloc (.cells #[.string ⟨#[98]⟩, .int .i64 0, .int .i64 3] 107)) (.slice (some ⟨w1.heap.size + 1, 0, none⟩) 1 1) bP.updates := OM (w1.alloc (.cells #[.string ⟨#[98]⟩, .int .i64 0, .int .i64 3] 107)) bP.updates 107 (w1.heap.size + 1) hz1.symm (by decide) (fun u hu => by
  simp only [bP, List.mem_cons, List.not_mem_nil, or_false] at hu
  subst hu
  exact ⟨AJ _ (by decide), AJ _ (by decide), by decide⟩)
 have hX := heap_alloc_new ((w1.alloc (.cells #[.string ⟨#[98]⟩, .int .i64 0, .int .i64 3] 107)).alloc (.cells #[.string ⟨#[98]⟩, .int .i64 0, .int .i64 3] 107)) (.cells #[.int .i64 1, .int .i64 0, .int .i64 7, .int .i64 4, .slice oa CT.objects.length oc, .slice ua CT.updates.length uc, .bool false, .int .i64 1, .int .i64 0, .int .i64 6, .int .i64 0, .slice none 0 0, .slice (some ⟨w1.heap.size, 0, none⟩) 1 1, .bool false, .int .i64 2, .int .i64 2, .int .i64 0, .int .i64 0, .slice none 0 0, .slice none 0 0, .bool false, .int .i64 1, .int .i64 0, .int .i64 6, .int .i64 0, .slice none 0 0, .slice (some ⟨w1.heap.size + 1, 0, none⟩) 1 1, .bool false, .int .i64 3, .int .i64 3, .int .i64 0, .int .i64 0, .slice none 0 0, .slice none 0 0, .bool false] 68)
 rw [hz2] at hX
 have hbU : Below w1.heap.size w1 (w1.alloc (.cells #[.string ⟨#[98]⟩, .int .i64 0, .int .i64 3] 107)) := bal
 have hbV : Below (w1.heap.size + 1) (w1.alloc (.cells #[.string ⟨#[98]⟩, .int .i64 0, .int .i64 3] 107)) (((w1.alloc (.cells #[.string ⟨#[98]⟩, .int .i64 0, .int .i64 3] 107)).alloc (.cells #[.string ⟨#[98]⟩, .int .i64 0, .int .i64 3] 107)).alloc (.cells #[.int .i64 1, .int .i64 0, .int .i64 7, .int .i64 4, .slice oa CT.objects.length oc, .slice ua CT.updates.length uc, .bool false, .int .i64 1, .int .i64 0, .int .i64 6, .int .i64 0, .slice none 0 0, .slice (some ⟨w1.heap.size, 0, none⟩) 1 1, .bool false, .int .i64 2, .int .i64 2, .int .i64 0, .int .i64 0, .slice none 0 0, .slice none 0 0, .bool false, .int .i64 1, .int .i64 0, .int .i64 6, .int .i64 0, .slice none 0 0, .slice (some ⟨w1.heap.size + 1, 0, none⟩) 1 1, .bool false, .int .i64 3, .int .i64 3, .int .i64 0, .int .i64 0, .slice none 0 0, .slice none 0 0, .bool false] 68)) := ((Below.refl _ _).alloc (by omega) _).alloc (by omega) _
 have hbW : Below (w1.heap.size + 1 + 1) ((w1.alloc (.cells #[.string ⟨#[98]⟩, .int .i64 0, .int .i64 3] 107)).alloc (.cells #[.string ⟨#[98]⟩, .int .i64 0, .int .i64 3] 107)) (((w1.alloc (.cells #[.string ⟨#[98]⟩, .int .i64 0, .int .i64 3] 107)).alloc (.cells #[.string ⟨#[98]⟩, .int .i64 0, .int .i64 3] 107)).alloc (.cells #[.int .i64 1, .int .i64 0, .int .i64 7, .int .i64 4, .slice oa CT.objects.length oc, .slice ua CT.updates.length uc, .bool false, .int .i64 1, .int .i64 0, .int .i64 6, .int .i64 0, .slice none 0 0, .slice (some ⟨w1.heap.size, 0, none⟩) 1 1, .bool false, .int .i64 2, .int .i64 2, .int .i64 0, .int .i64 0, .slice none 0 0, .slice none 0 0, .bool false, .int .i64 1, .int .i64 0, .int .i64 6, .int .i64 0, .slice none 0 0, .slice (some ⟨w1.heap.size + 1, 0, none⟩) 1 1, .bool false, .int .i64 3, .int .i64 3, .int .i64 0, .int .i64 0, .slice none 0 0, .slice none 0 0, .bool false] 68)) := (Below.refl _ _).alloc (by omega) _
 have hb := hbU.trans (hbV.mono (by omega))
 have H1 := zh (show AM (fun b => b = w1.heap.size) (((w1.alloc (.cells #[.string ⟨#[98]⟩, .int .i64 0, .int .i64 3] 107)).alloc (.cells #[.string ⟨#[98]⟩, .int .i64 0, .int .i64 3] 107)).alloc (.cells #[.int .i64 1, .int .i64 0, .int .i64 7, .int .i64 4, .slice oa CT.objects.length oc, .slice ua CT.updates.length uc, .bool false, .int .i64 1, .int .i64 0, .int .i64 6, .int .i64 0, .slice none 0 0, .slice (some ⟨w1.heap.size, 0, none⟩) 1 1, .bool false, .int .i64 2, .int .i64 2, .int .i64 0, .int .i64 0, .slice none 0 0, .slice none 0 0, .bool false, .int .i64 1, .int .i64 0, .int .i64 6, .int .i64 0, .slice none 0 0, .slice (some ⟨w1.heap.size + 1, 0, none⟩) 1 1, .bool false, .int .i64 3, .int .i64 3, .int .i64 0, .int .i64 0, .slice none 0 0, .slice none 0 0, .bool false] 68)) (.slice (some ⟨w1.heap.size, 0, none⟩) 1 1) bP.updates from AM.below hU1 (by rw [hz1]; exact hbV))
 have H2 := zh (show AM (fun b => b = w1.heap.size + 1) (((w1.alloc (.cells #[.string ⟨#[98]⟩, .int .i64 0, .int .i64 3] 107)).alloc (.cells #[.string ⟨#[98]⟩, .int .i64 0, .int .i64 3] 107)).alloc (.cells #[.int .i64 1, .int .i64 0, .int .i64 7, .int .i64 4, .slice oa CT.objects.length oc, .slice ua CT.updates.length uc, .bool false, .int .i64 1, .int .i64 0, .int .i64 6, .int .i64 0, .slice none 0 0, .slice (some ⟨w1.heap.size, 0, none⟩) 1 1, .bool false, .int .i64 2, .int .i64 2, .int .i64 0, .int .i64 0, .slice none 0 0, .slice none 0 0, .bool false, .int .i64 1, .int .i64 0, .int .i64 6, .int .i64 0, .slice none 0 0, .slice (some ⟨w1.heap.size + 1, 0, none⟩) 1 1, .bool false, .int .i64 3, .int .i64 3, .int .i64 0, .int .i64 0, .slice none 0 0, .slice none 0 0, .bool false] 68)) (.slice (some ⟨w1.heap.size + 1, 0, none⟩) 1 1) bP.updates from AM.below hU2 (by rw [hz2]; exact hbW))
 have Hb := zh hb
 have HX := zh hX
 have hw1 := HB1.out.size
 clear hU1 hU2 hX hbU hbV hbW hb hz1 hz2
 go_ret
 generalize (((w1.alloc (.cells #[.string ⟨#[98]⟩, .int .i64 0, .int .i64 3] 107)).alloc (.cells #[.string ⟨#[98]⟩, .int .i64 0, .int .i64 3] 107)).alloc (.cells #[.int .i64 1, .int .i64 0, .int .i64 7, .int .i64 4, .slice oa CT.objects.length oc, .slice ua CT.updates.length uc, .bool false, .int .i64 1, .int .i64 0, .int .i64 6, .int .i64 0, .slice none 0 0, .slice (some ⟨w1.heap.size, 0, none⟩) 1 1, .bool false, .int .i64 2, .int .i64 2, .int .i64 0, .int .i64 0, .slice none 0 0, .slice none 0 0, .bool false, .int .i64 1, .int .i64 0, .int .i64 6, .int .i64 0, .slice none 0 0, .slice (some ⟨w1.heap.size + 1, 0, none⟩) 1 1, .bool false, .int .i64 3, .int .i64 3, .int .i64 0, .int .i64 0, .slice none 0 0, .slice none 0 0, .bool false] 68)) = x at *
 refine ⟨_, rfl, ⟨fun i => if i = 0 then ⟨.slice oa CT.objects.length oc, .slice ua CT.updates.length uc⟩ else if i = 1 then ⟨.slice none 0 0, .slice (some ⟨w1.heap.size, 0, none⟩) 1 1⟩ else if i = 3 then ⟨.slice none 0 0, .slice (some ⟨w1.heap.size + 1, 0, none⟩) 1 1⟩ else ⟨.slice none 0 0, .slice none 0 0⟩, ⟨_, 5, rfl, by decide, by decide, by decide, fun _ => ⟨_, 0, rfl, by omega, fun i hi j u hu => ?_⟩⟩, fun i hi => ?_⟩, HB1.out.trans (Hb.out.mono (by omega))⟩
 ·have hj : j < 7 := by
   rcases Nat.lt_or_ge j 7 with h | h
   ·exact h
   ·rw [List.getElem?_eq_none (by simpa [Yf] using h)] at hu; cases hu
  have h1 : i = 0 ∨ i = 1 ∨ i = 2 ∨ i = 3 ∨ i = 4 := by have : i < 5 := hi; omega
  have h2 : j = 0 ∨ j = 1 ∨ j = 2 ∨ j = 3 ∨ j = 4 ∨ j = 5 ∨ j = 6 := by omega
  rcases h1 with rfl | rfl | rfl | rfl | rfl <;> rcases h2 with rfl | rfl | rfl | rfl | rfl | rfl | rfl <;> (cases hu; exact Aa HX.out rfl)
 ·have h1 : i = 0 ∨ i = 1 ∨ i = 2 ∨ i = 3 ∨ i = 4 := by have : i < 5 := hi; omega
  have hp0 : Ag (fun b => w.heap.size ≤ b) x (.slice none 0 0) [] := Ag.nil _ _ _ _ (by omega)
  have hp1 : AM (fun b => w.heap.size ≤ b) x (.slice none 0 0) [] := AM.nil _ _ _ _ (by omega)
  rcases h1 with rfl | rfl | rfl | rfl | rfl
  ·exact ⟨(Ho.out.below Hb.out).weaken fun b hb => hb, (Hu.out.below Hb.out).weaken fun b hb => hb, AJ _ (by decide), AJ _ (by decide), AJ _ (by decide), AJ _ (by decide)⟩
  ·exact ⟨hp0, H1.out.weaken fun b hb => by omega, AJ _ (by decide), AJ _ (by decide), AJ _ (by decide), AJ _ (by decide)⟩
  ·exact ⟨hp0, hp1, AJ _ (by decide), AJ _ (by decide), AJ _ (by decide), AJ _ (by decide)⟩
  ·exact ⟨hp0, H2.out.weaken fun b hb => by omega, AJ _ (by decide), AJ _ (by decide), AJ _ (by decide), AJ _ (by decide)⟩
  ·exact ⟨hp0, hp1, AJ _ (by decide), AJ _ (by decide), AJ _ (by decide), AJ _ (by decide)⟩
theorem Ja {w : World} {B n : Nat} {e : TypeId} {v : Value} {zs : List Value} (h : w.ownsRow B e 1 v n zs) (hn : 0 < n) :
  ∃ g cap, v = .slice (some ⟨g, 0, none⟩) n cap ∧ ∀ (x : World) (i : Nat) (u : Value), Below w.heap.size w x → zs[i]? = some u → x.cell? ⟨g, i, none⟩ = some u := by
 rcases h.2 with ⟨rfl, rfl⟩ | ⟨g, cap, cur, rfl, _, hg, _⟩
 ·omega
 ·refine ⟨g, cap, rfl, fun x i u hx hu => Ah hx ?_⟩
  have := h.cells (g := g) rfl i u hu
  by_cases h0 : i = 0
  ·subst h0; exact this
  ·simpa [Addr.add, h0] using this
theorem NO (w : World) (ht : QY w) : Calls Tryz.prog 42 #[] w fun e w' => e = .returned (.bool true) ∧ Below w.heap.size w w' := by
 have HT := zh (fun x (hx : Below w.heap.size w x) => ht.below hx)
 clear ht
 go_enter Tryz.func42, Tryz.ntmps42
 go_wp2_with fail
 refine (Rn _).mono ?_
 rintro e w1 ⟨v, rfl, hv, hb1⟩
 have HB1 := zh hb1
 have HR := zh (Lo Bi v _ w1 hv (HT.out _ hb1))
 obtain ⟨va, vc, rfl⟩ := hv.vshape
 rw [show OZ Bi = 0 from rfl] at HR
 clear hv hb1
 go_wp2_with fail
 refine HR.out.mono ?_
 rintro e w2 ⟨cv, tv, dv, rfl, hrv, hb2⟩
 have hc0 : AE (fun b => w1.heap.size ≤ b) w2 cv Gy := by
  have h1 := hrv.clu
  rw [show Nx Bi = Gy from (if_pos (by decide)).trans Yp] at h1; exact h1
 have ht0 : w2.ownsRow w1.heap.size 4 1 tv 5 [.bool true, .bool false, .bool true, .bool true, .bool false] := by
  have h1 := hrv.told
  rw [show Kf Bi = 5 from rfl, Yq] at h1; exact h1
 obtain ⟨le, hle, e5⟩ := Ys
 have hd0 : w2.ownsRow w1.heap.size 33 1 dv 5 (le.map (.int .i64) ++ [.int .i64 3]) := by
  have h1 := hrv.done
  rw [show Kf Bi = 5 from rfl, e5, List.map_append] at h1; exact h1
 have HB2 := zh (Aj HB1.out hb2)
 obtain ⟨gt, ct, rfl, hgt⟩ := Ja ht0 (by decide)
 obtain ⟨gd, cd, rfl, hgd⟩ := Ja hd0 (by decide)
 obtain ⟨ca, cc, rfl⟩ := hc0.vshape
 have Hc0 := zh (show AE (fun b => w1.heap.size ≤ b) w2 (.slice ca Gy.length cc) Gy from hc0)
 have T0 := zh (fun x (hx : Below w2.heap.size w2 x) => hgt x 0 _ hx rfl)
 have T1 := zh (fun x (hx : Below w2.heap.size w2 x) => hgt x 1 _ hx rfl)
 have T2 := zh (fun x (hx : Below w2.heap.size w2 x) => hgt x 2 _ hx rfl)
 have T3 := zh (fun x (hx : Below w2.heap.size w2 x) => hgt x 3 _ hx rfl)
 have T4 := zh (fun x (hx : Below w2.heap.size w2 x) => hgt x 4 _ hx rfl)
 have D4 := zh (fun x (hx : Below w2.heap.size w2 x) => hgd x 4 (.int .i64 3) hx (by rw [List.getElem?_append_right (by simp [hle])]; simp [hle]))
 clear hrv hc0 ht0 hd0 hgt hgd hb2 HR
 obtain ⟨T, hT, hT1, HTb0⟩ := Ce w2 #[.slice ca Gy.length cc] 66
 have hTb := hT.below
 have hTn := hT.next
 have c0 := fun x (hx : In T x) => HTb0 0 _ rfl x hx
 have HSh := zh (fun x (hx : In T x) => Pt Gy _ _ x (Hc0.out.below (hTb _ hx)) (HT.out _ (Aj HB2.out (hTb _ hx))))
 rw [ss.1, ss.2] at HSh
 have HDo := zh (fun x (hx : In T x) => Rr Gy ⟨2, 0, 0, 0, Db⟩ _ (.slice none 0 0) (.slice none 0 0) _ (fun _ => True) x (Hc0.out.below (hTb _ hx)) ⟨Ag.nil _ _ _ _ (by omega), AM.nil _ _ _ _ (by omega), AJ _ (by decide), AJ _ (by decide), AJ _ (by decide), AJ _ (by decide)⟩ (HT.out _ (Aj HB2.out (hTb _ hx))))
 rw [sd.1, sd.2.1] at HDo
 simp only [KJ, show Db.force = false from rfl] at HDo
 try simp only [Nat.add_zero] at c0
 have cx := c0 _ hT1
 go_wp2_with fail
 refine (HSh.out _ hT1).mono ?_
 rintro e w3 ⟨rfl, hb3⟩
 have hT3 := hTn _ _ hT1 hb3
 clear hb3 cx
 have cx := c0 _ hT3
 go_wp2_with fail
 refine (HDo.out _ hT3).mono ?_
 rintro e w4 ⟨v4, rfl, hO4, hb4⟩
 have hT4 := hTn _ _ hT3 hb4
 obtain ⟨F4, hO, _⟩ := hO4
 have hv4 := hO.any (by rw [sd.2.2.1]; decide)
 clear hO hb4
 obtain ⟨a4, n4, cap4, fr4, HN4, rfl, _, _, _, h44, _⟩ := hv4.open
 obtain rfl : n4 = 3 := HN4.out.trans sd.2.2.1
 obtain ⟨b4, off4, rfl, _, k0, k1, k2, k3, k4, k5, k6⟩ := h44 (by omega)
 have G4 := zh (fun x (hx : Below w4.heap.size w4 x) => show x.cell? ⟨b4, off4 + 2, none⟩ = some (.int .i64 2) from by have h1 := k2 0 x (by decide) hx; rw [sd.2.2.2] at h1; simpa using h1)
 clear h44 k0 k1 k2 k3 k4 k5 k6 hv4
 have hT5 := hT.alloc _ (.cells #[.slice (some ⟨b4, off4, none⟩) 3 cap4] 66) hT4
 have hD5 := heap_alloc_new w4 (.cells #[.slice (some ⟨b4, off4, none⟩) 3 cap4] 66)
 have hbA : Below w4.heap.size w4 (w4.alloc (.cells #[.slice (some ⟨b4, off4, none⟩) 3 cap4] 66)) := bal
 have y0 := Aa (j := 0) hD5 rfl
 have y1 := G4.out _ hbA
 have t0 := T0.out _ (hTb _ hT5)
 have t1 := T1.out _ (hTb _ hT5)
 have t2 := T2.out _ (hTb _ hT5)
 have t3 := T3.out _ (hTb _ hT5)
 have t4 := T4.out _ (hTb _ hT5)
 have d4 := D4.out _ (hTb _ hT5)
 have HE := zh (Aj HB2.out (hTb _ hT5))
 go_wp2_with fail
 go_ret
 exact ⟨rfl, HE.out⟩
end Go.Proofs.YtjdgpgfiomnjkaaGreatDoor
