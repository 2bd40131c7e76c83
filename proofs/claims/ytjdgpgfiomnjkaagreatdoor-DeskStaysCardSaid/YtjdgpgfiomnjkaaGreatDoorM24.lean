
/- DeskC: walks of desk.clerk.do and desk.Do. -/
import Derived.Test.YtjdgpgfiomnjkaaGreatDoorM23
import Derived.Test.YtjdgpgfiomnjkaaGreatDoorM21
import Derived.Test.YtjdgpgfiomnjkaaGreatDoorM8
import Derived.Test.YtjdgpgfiomnjkaaGreatDoorM3
import Derived.Test.YtjdgpgfiomnjkaaGreatDoorM22
import Derived.Test.YtjdgpgfiomnjkaaGreatDoorM20
import Derived.Deep.DeepCutAuto
import Derived.Test.YtjdgpgfiomnjkaaGreatDoorM17
namespace Go.Proofs.YtjdgpgfiomnjkaaGreatDoor
open Go.RowKit
set_option linter.unusedVariables false
set_option linter.unusedSimpArgs false
def actE (l : List Rep) (a : Ac) : Int := if formE a ≠ 0 then formE a else if a.kind = 1 then pushRE l a.push a.up a.late else if a.kind = 2 then repairE (rep l (best l)) (rep l a.on.toNat) else 0
def actL (l : List Rep) (a : Ac) : List Rep := if a.kind = 1 then pushRL l a.push a.up a.late else if a.kind = 2 then l.set a.on.toNat (repairR (rep l (best l)) (rep l a.on.toNat)) else l.set a.on.toNat (idleR (rep l a.on.toNat))
def actD (l : List Rep) (a : Ac) : Bool := if a.kind = 1 then pushRD l a.push a.up a.late else true
theorem form_zero {a : Ac} (h : formE a = 0) : 1 ≤ a.kind ∧ a.kind ≤ 3 ∧ 0 ≤ a.on ∧ a.on < 3 := by
 unfold formE at h
 split at h
 ·cases h
 ·split at h
  ·cases h
  ·split at h
   ·cases h
   ·omega
theorem OwnF.mono {B B' : Nat} {w : World} {v : Value} {l : List Rep} (h : OwnF B w v l) (hB : B' ≤ B) : OwnF B' w v l := by
 obtain ⟨F, hO, hF⟩ := h
 exact ⟨F, hO.weaken (fun _ h => h) (fun b hb => ⟨hO.lt hb, hO.own hb⟩) hB, fun b hb => by have := hF b hb; omega⟩
theorem OwnF.upd {B : Nat} {T : Nat → Prop} {w w' : World} {v : Value} {l : List Rep} (h : OwnF B w v l) (hu : Upd T w w') (hT : ∀ b, B ≤ b → b < w.heap.size → ¬ T b) : OwnF B w' v l := by
 obtain ⟨F, hO, hF⟩ := h
 exact ⟨F, hO.upd hu (fun b hb => hT b (hF b hb) (hO.lt hb)) (fun g hg => hT g (hO.block hg).1 (hO.block hg).2), hF⟩
theorem OwnF.shape {B : Nat} {w : World} {v : Value} {l : List Rep} (h : OwnF B w v l) : ∃ a c, v = .slice a l.length c := let ⟨_, hO, _⟩ := h; hO.shape
theorem OwnF.below {B : Nat} {w w' : World} {v : Value} {l : List Rep} (h : OwnF B w v l) (hb : Below w.heap.size w w') : OwnF B w' v l := by
 obtain ⟨F, hO, hF⟩ := h
 exact ⟨F, hO.below hb, hF⟩
def DoneK (K : Nat) (w w' : World) (E : Int) (l : List Rep) (d : Bool) : Prop := (E ≠ 0 → Below w.heap.size w w') ∧ (E = 0 → Upd (fun b => b = K) w w' ∧ ∃ v', w'.heap[K]? = some (.cells #[v', .bool d] 145 (0, 0)) ∧ OwnF w.heap.size w' v' l)
set_option maxRecDepth 100000 in
set_option maxHeartbeats 16000000 in
theorem clerkDo_any (K : Nat) (sa : Option Addr) (sc : Nat) (l : List Rep) (a : Ac) (ov uv : Value) (S S1 : Nat → Prop) (w : World) (hK : w.heap[K]? = some (.cells #[.slice sa 3 sc, .bool false] 145 (0, 0))) (h : RepsV S w (.slice sa 3 sc) l) (hc : RightC l) (ha : ActIs S1 w a ov uv) (ht : Tab w) :
  Calls Tryz.prog 100 #[.pointer (some ⟨K, 0, none⟩), actV a ov uv] w fun e w' => e = .returned (.int .i64 (actE l a)) ∧ DoneK K w w' (actE l a) (actL l a) (actD l a) := by
 obtain ⟨oa, oc, rfl⟩ := ha.objs.vshape
 obtain ⟨⟨ua, uc⟩, rfl⟩ := ha.upds.shape
 have HA := Lib.hid ha
 have H := Lib.hid h
 have HC := Lib.hid hc
 have HK := Lib.hid hK
 have HTw := Lib.hid ht
 have hKs : K < w.heap.size := lt_of_block hK
 have HE := Lib.hid (show actE l a = if formE a ≠ 0 then formE a else if a.kind = 1 then pushRE l a.push a.up a.late else if a.kind = 2 then repairE (rep l (best l)) (rep l a.on.toNat) else 0 from rfl)
 have HL := Lib.hid (show actL l a = if a.kind = 1 then pushRL l a.push a.up a.late else if a.kind = 2 then l.set a.on.toNat (repairR (rep l (best l)) (rep l a.on.toNat)) else l.set a.on.toNat (idleR (rep l a.on.toNat)) from rfl)
 have HD := Lib.hid (show actD l a = if a.kind = 1 then pushRD l a.push a.up a.late else true from rfl)
 obtain ⟨R, hR, hR1, HB0⟩ := cls_allocs w [.cells #[.pointer (some ⟨K, 0, none⟩)] 143, .cells #[.int .i64 a.kind, .int .i64 a.on, .int .i64 a.up, .int .i64 a.late, .slice oa a.push.objects.length oc, .slice ua a.push.updates.length uc, .bool a.push.force] 68]
 simp only [List.foldl] at hR1
 have hRb := hR.below
 have hRn := hR.next
 have HJ := Lib.hid (fun x (hx : In R x) => show x.heap[w.heap.size]? = some (.cells #[.pointer (some ⟨K, 0, none⟩)] 143 (0, 0)) from HB0 x hx 0 _ rfl)
 have HAb := Lib.hid (fun x (hx : In R x) => HB0 x hx 1 _ rfl)
 clear HB0
 have j0 := fun x (hx : In R x) => block_cell (j := 0) (HJ.out x hx) rfl
 have a0 := fun x (hx : In R x) => block_cell (j := 0) (HAb.out x hx) rfl
 have a1 := fun x (hx : In R x) => block_cell (j := 1) (HAb.out x hx) rfl
 have a2 := fun x (hx : In R x) => block_cell (j := 2) (HAb.out x hx) rfl
 have a3 := fun x (hx : In R x) => block_cell (j := 3) (HAb.out x hx) rfl
 have a4 := fun x (hx : In R x) => block_cell (j := 4) (HAb.out x hx) rfl
 have a5 := fun x (hx : In R x) => block_cell (j := 5) (HAb.out x hx) rfl
 have a6 := fun x (hx : In R x) => block_cell (j := 6) (HAb.out x hx) rfl
 have HKx := Lib.hid (fun x (hx : In R x) => ((hRb _ hx).block _ hKs).trans HK.out)
 have k0 := fun x (hx : In R x) => block_cell (j := 0) (HKx.out x hx) rfl
 have HSz := Lib.hid (fun x (hx : In R x) => show w.heap.size + 2 ≤ x.heap.size from lt_of_block (HAb.out x hx))
 have HFo := Lib.hid (fun x (hx : In R x) => form_any K sa sc false a _ _ _ x (HKx.out x hx) (HA.out.below (hRb _ hx)))
 simp only [actV] at HFo
 have jj := j0 _ hR1
 have b0 := a0 _ hR1
 have b1 := a1 _ hR1
 have b2 := a2 _ hR1
 have b3 := a3 _ hR1
 have b4 := a4 _ hR1
 have b5 := a5 _ hR1
 have b6 := a6 _ hR1
 clear ha h hc hK ht
 simp only [actV]
 by_cases hf : formE a = 0
 case neg =>
  have HE2 := Lib.hid (show actE l a = formE a by rw [HE.out, if_pos hf])
  have q : (formE a != 0) = true := by simpa using hf
  have HN := Lib.hid hf
  clear hf HE
  generalize formE a = fe at *
  go_enter Tryz.func100, Tryz.ntmps100
  go_wp2_with fail
  refine (HFo.out _ hR1).mono ?_
  rintro e w1 ⟨rfl, hb1⟩
  have hR2 := hRn _ _ hR1 hb1
  clear hb1 jj b0 b1 b2 b3 b4 b5 b6
  have HB2 := Lib.hid (hRb _ hR2)
  go_wp2_with fail
  go_ret
  exact ⟨ret_int HE2.out.symm, fun _ => HB2.out, fun h => absurd (HE2.out.symm.trans h) HN.out⟩
 case pos =>
  obtain ⟨f1, f2, f3, f4⟩ := form_zero hf
  rw [if_neg (by simpa using hf)] at HE
  rw [hf] at HFo
  clear hf
  obtain ⟨i, hi⟩ : ∃ i : Nat, a.on = (i : Int) := ⟨a.on.toNat, by omega⟩
  have hi3 : i < 3 := by omega
  have Hoi := Lib.hid (show a.on.toNat = i by rw [hi]; rfl)
  rw [Hoi.out] at HE HL
  have Hi := Lib.hid hi
  clear hi
  by_cases g1 : a.kind = 1
  case pos =>
   rw [if_pos g1] at HE HL HD
   have qk : (a.kind == 1) = true := by simpa using g1
   clear g1 Hi Hoi
   have HRw := Lib.hid (fun x (hx : In R x) => cluRaw_any l a.push a.up a.late _ _ _ _ _ x (H.out.below (hRb _ hx)) HC.out ⟨HA.out.objs.below (hRb _ hx), HA.out.upds.below (hRb _ hx)⟩ (HTw.out.below (hRb _ hx)))
   simp only [pshV] at HRw
   obtain ⟨re, hre⟩ : ∃ re, re = pushRE l a.push a.up a.late := ⟨_, rfl⟩
   obtain ⟨rl, hrl⟩ : ∃ rl, rl = pushRL l a.push a.up a.late := ⟨_, rfl⟩
   obtain ⟨rd, hrd⟩ : ∃ rd, rd = pushRD l a.push a.up a.late := ⟨_, rfl⟩
   rw [← hre, ← hrl, ← hrd] at HRw
   rw [← hre] at HE
   rw [← hrl] at HL
   rw [← hrd] at HD
   clear hre hrl hrd
   go_enter Tryz.func100, Tryz.ntmps100
   go_wp2_with fail
   refine (HFo.out _ hR1).mono ?_
   rintro e w1 ⟨rfl, hb1⟩
   have hR2 := hRn _ _ hR1 hb1
   clear hb1 jj b0 b1 b2 b3 b4 b5 b6
   have b0 := a0 _ hR2
   have b2 := a2 _ hR2
   have b3 := a3 _ hR2
   have b4 := a4 _ hR2
   have b5 := a5 _ hR2
   have b6 := a6 _ hR2
   go_upto_region 6 with fail
   clear b0 b2 b3 b4 b5 b6
   go_cut [6, 7, 8] (fun s6 s7 s8 wx => ∃ D6, s6 = .pointer (some ⟨D6, 0, none⟩) ∧ s7 = .bool rd ∧ s8 = .int .i64 re ∧ ∃ y, y = wx ∧ Hid (In R y ∧ w.heap.size + 2 ≤ D6 ∧ ∃ a6 c6, y.heap[D6]? = some (.cells #[.slice a6 rl.length c6] 66 (0, 0)) ∧ OwnF w.heap.size y (.slice a6 rl.length c6) rl))
   case first =>
    obtain ⟨Q, hQ, hQ1, hQu⟩ := cls_new w1
    have hQb := hQ.below
    have hQn := hQ.next
    have HQu := Lib.hid hQu
    clear hQu
    have HQR := Lib.hid (fun x (hx : In Q x) => hRn _ _ hR2 (hQb _ hx))
    have hw1 := HSz.out _ hR2
    refine wp_region_held (S := In Q) (by kernel_rfl) ?_
    change wpAnyH _ _ _ _ _ _ _ _ (World.drew _)
    have hC0 := hQ.drew _ hQ1
    generalize hx0 : w1.drew = x0 at hC0 ⊢
    clear hx0
    refine wpAnyH_take (i := 0) (v := .pointer (some ⟨K, 0, none⟩)) rfl (by kernel_rfl) (by kernel_rfl) (by kernel_rfl) (fun _ _ _ h => h) (Or.inl ⟨by rfl, fun w hSw => ?_⟩) hC0 ?_
    ·have yy := j0 _ (HQR.out _ hSw); go_simp
    simp only [Act.put, List.getElem_toArray, List.getElem_cons_zero, List.getElem_cons_succ, List.setIfInBounds_toArray, List.set_cons_zero, List.set_cons_succ]
    refine wpAnyH_take (i := 1) (v := .pointer (some ⟨K, 0, none⟩)) rfl (by kernel_rfl) (by kernel_rfl) (by kernel_rfl) (fun _ _ _ h => h) (Or.inl ⟨by rfl, fun w hSw => ?_⟩) hC0 ?_
    ·go_simp
    simp only [Act.put, List.getElem_toArray, List.getElem_cons_zero, List.getElem_cons_succ, List.setIfInBounds_toArray, List.set_cons_zero, List.set_cons_succ]
    refine wpAnyH_take (i := 2) (v := .pointer (some ⟨K, 0, none⟩)) rfl (by kernel_rfl) (by kernel_rfl) (by kernel_rfl) (fun _ _ _ h => h) (Or.inl ⟨by rfl, fun w hSw => ?_⟩) hC0 ?_
    ·go_simp
    simp only [Act.put, List.getElem_toArray, List.getElem_cons_zero, List.getElem_cons_succ, List.setIfInBounds_toArray, List.set_cons_zero, List.set_cons_succ]
    refine wpAnyH_take (i := 3) (v := .agg #[.slice sa 3 sc]) rfl (by kernel_rfl) (by kernel_rfl) (by kernel_rfl) (fun _ _ _ h => h) (Or.inl ⟨by rfl, fun w hSw => ?_⟩) hC0 ?_
    ·have yy := k0 _ (HQR.out _ hSw); go_simp
    simp only [Act.put, List.getElem_toArray, List.getElem_cons_zero, List.getElem_cons_succ, List.setIfInBounds_toArray, List.set_cons_zero, List.set_cons_succ]
    refine wpAnyH_take (i := 4) (v := .pointer (some ⟨w.heap.size + 1, 4, none⟩)) rfl (by kernel_rfl) (by kernel_rfl) (by kernel_rfl) (fun _ _ _ h => h) (Or.inl ⟨by rfl, fun w hSw => ?_⟩) hC0 ?_
    ·go_simp
    simp only [Act.put, List.getElem_toArray, List.getElem_cons_zero, List.getElem_cons_succ, List.setIfInBounds_toArray, List.set_cons_zero, List.set_cons_succ]
    refine wpAnyH_take (i := 5) (v := .agg #[.slice oa a.push.objects.length oc, .slice ua a.push.updates.length uc, .bool a.push.force]) rfl (by kernel_rfl) (by kernel_rfl) (by kernel_rfl) (fun _ _ _ h => h) (Or.inl ⟨by rfl, fun w hSw => ?_⟩) hC0 ?_
    ·have y4 := a4 _ (HQR.out _ hSw); have y5 := a5 _ (HQR.out _ hSw); have y6 := a6 _ (HQR.out _ hSw); go_simp
    simp only [Act.put, List.getElem_toArray, List.getElem_cons_zero, List.getElem_cons_succ, List.setIfInBounds_toArray, List.set_cons_zero, List.set_cons_succ]
    refine wpAnyH_take (i := 6) (v := .pointer (some ⟨w.heap.size + 1, 2, none⟩)) rfl (by kernel_rfl) (by kernel_rfl) (by kernel_rfl) (fun _ _ _ h => h) (Or.inl ⟨by rfl, fun w hSw => ?_⟩) hC0 ?_
    ·go_simp
    simp only [Act.put, List.getElem_toArray, List.getElem_cons_zero, List.getElem_cons_succ, List.setIfInBounds_toArray, List.set_cons_zero, List.set_cons_succ]
    refine wpAnyH_take (i := 7) (v := .int .i64 a.up) rfl (by kernel_rfl) (by kernel_rfl) (by kernel_rfl) (fun _ _ _ h => h) (Or.inl ⟨by rfl, fun w hSw => ?_⟩) hC0 ?_
    ·have y2 := a2 _ (HQR.out _ hSw); go_simp
    simp only [Act.put, List.getElem_toArray, List.getElem_cons_zero, List.getElem_cons_succ, List.setIfInBounds_toArray, List.set_cons_zero, List.set_cons_succ]
    refine wpAnyH_take (i := 8) (v := .pointer (some ⟨w.heap.size + 1, 3, none⟩)) rfl (by kernel_rfl) (by kernel_rfl) (by kernel_rfl) (fun _ _ _ h => h) (Or.inl ⟨by rfl, fun w hSw => ?_⟩) hC0 ?_
    ·go_simp
    simp only [Act.put, List.getElem_toArray, List.getElem_cons_zero, List.getElem_cons_succ, List.setIfInBounds_toArray, List.set_cons_zero, List.set_cons_succ]
    refine wpAnyH_take (i := 9) (v := .int .i64 a.late) rfl (by kernel_rfl) (by kernel_rfl) (by kernel_rfl) (fun _ _ _ h => h) (Or.inl ⟨by rfl, fun w hSw => ?_⟩) hC0 ?_
    ·have y3 := a3 _ (HQR.out _ hSw); go_simp
    simp only [Act.put, List.getElem_toArray, List.getElem_cons_zero, List.getElem_cons_succ, List.setIfInBounds_toArray, List.set_cons_zero, List.set_cons_succ]
    refine wpAnyH_all (rs := [10, 15]) (by kernel_rfl) (by simp) (fun j hj => ?_)
    rcases List.mem_cons.1 hj with rfl | hj
    ·skip
     refine Or.inl ?_
     go_wp2_with fail
     refine (HRw.out _ (HQR.out _ hC0)).mono ?_
     rintro e x20 ⟨v6, rfl, hv6, hb0⟩
     obtain ⟨a6, c6, rfl⟩ := hv6.shape
     have hC1 := hQn _ _ hC0 hb0
     have hsx := (HQR.out _ hC0)
     have hsy := (hRb _ hsx).size
     have Hv6 := Lib.hid (And.intro hv6 hsy)
     clear hv6 hb0 hsx hsy
     obtain ⟨B6, hB6⟩ : ∃ B6, B6 = x0.heap.size := ⟨_, rfl⟩
     rw [← hB6] at Hv6
     clear hB6
     generalize x20 = x1 at *
     go_simp
     refine wpAnyH_take (i := 11) (v := .tuple #[.agg #[.slice a6 rl.length c6], .bool rd, .int .i64 re]) rfl (by kernel_rfl) (by kernel_rfl) (by kernel_rfl) (fun _ _ _ h => h) (Or.inl ⟨by rfl, fun w hSw => ?_⟩) hC1 ?_
     ·go_simp
     simp only [Act.put, List.getElem_toArray, List.getElem_cons_zero, List.getElem_cons_succ, List.setIfInBounds_toArray, List.set_cons_zero, List.set_cons_succ]
     refine wpAnyH_take (i := 12) (v := .agg #[.slice a6 rl.length c6]) rfl (by kernel_rfl) (by kernel_rfl) (by kernel_rfl) (fun _ _ _ h => h) (Or.inl ⟨by rfl, fun w hSw => ?_⟩) hC1 ?_
     ·go_simp
     simp only [Act.put, List.getElem_toArray, List.getElem_cons_zero, List.getElem_cons_succ, List.setIfInBounds_toArray, List.set_cons_zero, List.set_cons_succ]
     refine wpAnyH_take (i := 13) (v := .bool rd) rfl (by kernel_rfl) (by kernel_rfl) (by kernel_rfl) (fun _ _ _ h => h) (Or.inl ⟨by rfl, fun w hSw => ?_⟩) hC1 ?_
     ·go_simp
     simp only [Act.put, List.getElem_toArray, List.getElem_cons_zero, List.getElem_cons_succ, List.setIfInBounds_toArray, List.set_cons_zero, List.set_cons_succ]
     refine wpAnyH_take (i := 14) (v := .int .i64 re) rfl (by kernel_rfl) (by kernel_rfl) (by kernel_rfl) (fun _ _ _ h => h) (Or.inl ⟨by rfl, fun w hSw => ?_⟩) hC1 ?_
     ·go_simp
     simp only [Act.put, List.getElem_toArray, List.getElem_cons_zero, List.getElem_cons_succ, List.setIfInBounds_toArray, List.set_cons_zero, List.set_cons_succ]
     refine wpAnyH_all (rs := [15]) (by kernel_rfl) (by simp) (fun j hj => ?_)
     obtain rfl : j = 15 := by simpa using hj
     refine Or.inl ?_
     have hC2 := hQ.alloc _ (.cells #[.slice none 0 0] 66) hC1
     go_simp
     have hbA : Below x1.heap.size x1 (x1.alloc (.cells #[.slice none 0 0] 66)) := (Below.refl _ _).alloc (Nat.le_refl _) _
     have HDb := Lib.hid (heap_alloc_new x1 (.cells #[.slice none 0 0] 66))
     have HDge := Lib.hid (show w1.heap.size ≤ x1.heap.size from (hQb _ hC1).size)
     have Hlt := Lib.hid (show ∀ T : Nat → Prop, (∀ b, T b → b = x1.heap.size) → ∀ z, Upd T (x1.alloc (.cells #[.slice none 0 0] 66)) z → OwnF w.heap.size z (.slice a6 rl.length c6) rl from fun T hT z hu => by
      obtain ⟨F, hO, hF⟩ := Hv6.out.1
      exact (show OwnF B6 z (.slice a6 rl.length c6) rl from ⟨F, (hO.below hbA).upd hu (fun b hb e => by have := hT b e; have := hO.lt hb; omega) (fun g hg e => by have := hT g e; have := (hO.block hg).2; omega), hF⟩).mono Hv6.out.2)
     clear hbA
     generalize x1.heap.size = D at *
     generalize x1.alloc (.cells #[.slice none 0 0] 66) = x2 at *
     refine wpAnyH_all (rs := [16]) (by kernel_rfl) (by simp) (fun j hj => ?_)
     obtain rfl : j = 16 := by simpa using hj
     refine Or.inl ?_
     have gz := block_cell (j := 0) HDb.out rfl
     have fz := block_free (j := 0) HDb.out
     have Hu7 := Lib.hid (show Upd (fun b => b = D) x2 (x2.setCell ⟨D, 0, none⟩ (.slice a6 rl.length c6)) from (Upd.refl (fun b => b = D) _).setCell (p := ⟨D, 0, none⟩) (fun _ => rfl) _)
     have Hb7 := Lib.hid (block_setCell (j := 0) HDb.out (.slice a6 rl.length c6))
     have hC3 := HQu.out _ _ _ hC2 Hu7.out (fun b hb => by have := HDge.out; have e2 : b = D := hb; omega)
     have Hv7 := Lib.hid (Hlt.out _ (fun b hb => hb) _ Hu7.out)
     go_wp2_with fail
     first | refine ⟨hC3, ?_⟩ | skip
     change wpAnyH _ _ _ _ _ _ _ _ (x2.setCell ⟨D, 0, none⟩ (.slice a6 rl.length c6))
     clear gz fz Hu7
     generalize x2.setCell ⟨D, 0, none⟩ (.slice a6 rl.length c6) = x3 at *
     refine wpAnyH_take (i := 17) (v := .bool rd) rfl (by kernel_rfl) (by kernel_rfl) (by kernel_rfl) (fun _ _ _ h => h) (Or.inl ⟨by rfl, fun w hSw => ?_⟩) hC3 ?_
     ·go_simp
     simp only [Act.put, List.getElem_toArray, List.getElem_cons_zero, List.getElem_cons_succ, List.setIfInBounds_toArray, List.set_cons_zero, List.set_cons_succ]
     refine wpAnyH_all (rs := [18]) (by kernel_rfl) (by simp) (fun j hj => ?_)
     obtain rfl : j = 18 := by simpa using hj
     refine Or.inl ?_
     go_wp2_with fail
     first | refine ⟨hC3, by kernel_rfl, ?_⟩ | refine ⟨by kernel_rfl, ?_⟩
     have HEnd := Lib.hid (show In R x3 ∧ w.heap.size + 2 ≤ D ∧ ∃ a6 c6, x3.heap[D]? = some (.cells #[.slice a6 rl.length c6] 66 (0, 0)) ∧ OwnF w.heap.size x3 (.slice a6 rl.length c6) rl from ⟨HQR.out _ hC3, by have := HDge.out; omega, a6, c6, Hb7.out, Hv7.out⟩)
     go_wp2_with fail
     go_meet
     exact ⟨D, rfl, rfl, rfl, x3, rfl, HEnd⟩
    ·skip
     obtain rfl : j = 15 := by simpa using hj
     refine Or.inl ?_
     have hC1 := hQ.alloc _ (.cells #[.slice none 0 0] 66) hC0
     go_simp
     have hbA : Below x0.heap.size x0 (x0.alloc (.cells #[.slice none 0 0] 66)) := (Below.refl _ _).alloc (Nat.le_refl _) _
     have HDb := Lib.hid (heap_alloc_new x0 (.cells #[.slice none 0 0] 66))
     have HDge := Lib.hid (show w1.heap.size ≤ x0.heap.size from (hQb _ hC0).size)
     clear hbA
     generalize x0.heap.size = D at *
     generalize x0.alloc (.cells #[.slice none 0 0] 66) = x1 at *
     refine wpAnyH_all (rs := [10]) (by kernel_rfl) (by simp) (fun j hj => ?_)
     obtain rfl : j = 10 := by simpa using hj
     refine Or.inl ?_
     go_wp2_with fail
     refine (HRw.out _ (HQR.out _ hC1)).mono ?_
     rintro e x21 ⟨v6, rfl, hv6, hb0⟩
     obtain ⟨a6, c6, rfl⟩ := hv6.shape
     have hC2 := hQn _ _ hC1 hb0
     have hsx := (HQR.out _ hC1)
     have hsy := (hRb _ hsx).size
     have HDx := Lib.hid (show D < x1.heap.size from lt_of_block HDb.out)
     replace HDb := Lib.hid (blk_below HDb.out hb0)
     have Hv6 := Lib.hid (And.intro hv6 hsy)
     clear hv6 hb0 hsx hsy
     obtain ⟨B6, hB6⟩ : ∃ B6, B6 = x1.heap.size := ⟨_, rfl⟩
     rw [← hB6] at Hv6 HDx
     clear hB6
     generalize x21 = x2 at *
     go_simp
     refine wpAnyH_take (i := 11) (v := .tuple #[.agg #[.slice a6 rl.length c6], .bool rd, .int .i64 re]) rfl (by kernel_rfl) (by kernel_rfl) (by kernel_rfl) (fun _ _ _ h => h) (Or.inl ⟨by rfl, fun w hSw => ?_⟩) hC2 ?_
     ·go_simp
     simp only [Act.put, List.getElem_toArray, List.getElem_cons_zero, List.getElem_cons_succ, List.setIfInBounds_toArray, List.set_cons_zero, List.set_cons_succ]
     refine wpAnyH_take (i := 12) (v := .agg #[.slice a6 rl.length c6]) rfl (by kernel_rfl) (by kernel_rfl) (by kernel_rfl) (fun _ _ _ h => h) (Or.inl ⟨by rfl, fun w hSw => ?_⟩) hC2 ?_
     ·go_simp
     simp only [Act.put, List.getElem_toArray, List.getElem_cons_zero, List.getElem_cons_succ, List.setIfInBounds_toArray, List.set_cons_zero, List.set_cons_succ]
     refine wpAnyH_take (i := 13) (v := .bool rd) rfl (by kernel_rfl) (by kernel_rfl) (by kernel_rfl) (fun _ _ _ h => h) (Or.inl ⟨by rfl, fun w hSw => ?_⟩) hC2 ?_
     ·go_simp
     simp only [Act.put, List.getElem_toArray, List.getElem_cons_zero, List.getElem_cons_succ, List.setIfInBounds_toArray, List.set_cons_zero, List.set_cons_succ]
     refine wpAnyH_take (i := 14) (v := .int .i64 re) rfl (by kernel_rfl) (by kernel_rfl) (by kernel_rfl) (fun _ _ _ h => h) (Or.inl ⟨by rfl, fun w hSw => ?_⟩) hC2 ?_
     ·go_simp
     simp only [Act.put, List.getElem_toArray, List.getElem_cons_zero, List.getElem_cons_succ, List.setIfInBounds_toArray, List.set_cons_zero, List.set_cons_succ]
     refine wpAnyH_all (rs := [16]) (by kernel_rfl) (by simp) (fun j hj => ?_)
     obtain rfl : j = 16 := by simpa using hj
     refine Or.inl ?_
     have gz := block_cell (j := 0) HDb.out rfl
     have fz := block_free (j := 0) HDb.out
     have Hu7 := Lib.hid (show Upd (fun b => b = D) x2 (x2.setCell ⟨D, 0, none⟩ (.slice a6 rl.length c6)) from (Upd.refl (fun b => b = D) _).setCell (p := ⟨D, 0, none⟩) (fun _ => rfl) _)
     have Hb7 := Lib.hid (block_setCell (j := 0) HDb.out (.slice a6 rl.length c6))
     have hC3 := HQu.out _ _ _ hC2 Hu7.out (fun b hb => by have := HDge.out; have e2 : b = D := hb; omega)
     have Hv7 := Lib.hid ((Hv6.out.1.upd Hu7.out (fun b hb _ e => by have := HDx.out; have e2 : b = D := e; omega)).mono Hv6.out.2)
     go_wp2_with fail
     first | refine ⟨hC3, ?_⟩ | skip
     change wpAnyH _ _ _ _ _ _ _ _ (x2.setCell ⟨D, 0, none⟩ (.slice a6 rl.length c6))
     clear gz fz Hu7
     generalize x2.setCell ⟨D, 0, none⟩ (.slice a6 rl.length c6) = x3 at *
     refine wpAnyH_take (i := 17) (v := .bool rd) rfl (by kernel_rfl) (by kernel_rfl) (by kernel_rfl) (fun _ _ _ h => h) (Or.inl ⟨by rfl, fun w hSw => ?_⟩) hC3 ?_
     ·go_simp
     simp only [Act.put, List.getElem_toArray, List.getElem_cons_zero, List.getElem_cons_succ, List.setIfInBounds_toArray, List.set_cons_zero, List.set_cons_succ]
     refine wpAnyH_all (rs := [18]) (by kernel_rfl) (by simp) (fun j hj => ?_)
     obtain rfl : j = 18 := by simpa using hj
     refine Or.inl ?_
     go_wp2_with fail
     first | refine ⟨hC3, by kernel_rfl, ?_⟩ | refine ⟨by kernel_rfl, ?_⟩
     have HEnd := Lib.hid (show In R x3 ∧ w.heap.size + 2 ≤ D ∧ ∃ a6 c6, x3.heap[D]? = some (.cells #[.slice a6 rl.length c6] 66 (0, 0)) ∧ OwnF w.heap.size x3 (.slice a6 rl.length c6) rl from ⟨HQR.out _ hC3, by have := HDge.out; omega, a6, c6, Hb7.out, Hv7.out⟩)
     go_wp2_with fail
     go_meet
     exact ⟨D, rfl, rfl, rfl, x3, rfl, HEnd⟩
   case rest =>
    obtain ⟨D6, rfl, rfl, rfl, y6, rfl, HK6⟩ := hcut
    obtain ⟨hR6, hD6, a6, c6, hb6, ho6⟩ := HK6.out
    have HB6 := Lib.hid hb6
    have HO6 := Lib.hid ho6
    clear HK6 hb6 ho6
    by_cases hz : re = 0
    case neg =>
     have q : (re == 0) = false := by simpa using hz
     have HN := Lib.hid hz
     have HB2 := Lib.hid (hRb _ hR6)
     clear hz
     go_wp2_with fail
     go_ret
     exact ⟨ret_int HE.out.symm, fun _ => HB2.out, fun h => absurd (HE.out.symm.trans h) HN.out⟩
    case pos =>
     subst hz
     go_upto_region 8 with fail
     refine wp_region_held (S := In (fun x : World => x.cell? ⟨w.heap.size, 0, none⟩ = some (.pointer (some ⟨K, 0, none⟩)) ∧ x.cell? ⟨D6, 0, none⟩ = some (.slice a6 rl.length c6))) (by kernel_rfl) ?_
     change wpAnyH _ _ _ _ _ _ _ _ (World.drew _)
     have hR7 := hR.drew _ hR6
     have HB7 := Lib.hid (show y6.drew.heap[D6]? = _ from HB6.out)
     have HO7 := Lib.hid (HO6.out.below (Below.refl _ _).drew)
     generalize hx0 : y6.drew = x0 at hR7 HB7 HO7 ⊢
     clear hx0 HB6 HO6
     have hC0 : In (fun x : World => x.cell? ⟨w.heap.size, 0, none⟩ = some (.pointer (some ⟨K, 0, none⟩)) ∧ x.cell? ⟨D6, 0, none⟩ = some (.slice a6 rl.length c6)) x0 := show (fun x : World => x.cell? ⟨w.heap.size, 0, none⟩ = some (.pointer (some ⟨K, 0, none⟩)) ∧ x.cell? ⟨D6, 0, none⟩ = some (.slice a6 rl.length c6)) x0 from ⟨j0 _ hR7, block_cell (j := 0) HB7.out rfl⟩
     have HKy := Lib.hid (HKx.out _ hR7)
     refine wpAnyH_take (i := 0) (v := .pointer (some ⟨K, 0, none⟩)) rfl (by kernel_rfl) (by kernel_rfl) (by kernel_rfl) (fun _ _ _ h => h) (Or.inl ⟨by rfl, fun w hSw => ?_⟩) hC0 ?_
     ·have yq : _ ∧ _ := hSw; have yy := yq.1; go_simp
     simp only [Act.put, List.getElem_toArray, List.getElem_cons_zero, List.getElem_cons_succ, List.setIfInBounds_toArray, List.set_cons_zero, List.set_cons_succ]
     refine wpAnyH_take (i := 1) (v := .pointer (some ⟨K, 0, none⟩)) rfl (by kernel_rfl) (by kernel_rfl) (by kernel_rfl) (fun _ _ _ h => h) (Or.inl ⟨by rfl, fun w hSw => ?_⟩) hC0 ?_
     ·have yq : _ ∧ _ := hSw; have yy := yq.1; go_simp
     simp only [Act.put, List.getElem_toArray, List.getElem_cons_zero, List.getElem_cons_succ, List.setIfInBounds_toArray, List.set_cons_zero, List.set_cons_succ]
     refine wpAnyH_take (i := 2) (v := .agg #[.slice a6 rl.length c6]) rfl (by kernel_rfl) (by kernel_rfl) (by kernel_rfl) (fun _ _ _ h => h) (Or.inl ⟨by rfl, fun w hSw => ?_⟩) hC0 ?_
     ·have yq : _ ∧ _ := hSw; have yy := yq.2; go_simp
     simp only [Act.put, List.getElem_toArray, List.getElem_cons_zero, List.getElem_cons_succ, List.setIfInBounds_toArray, List.set_cons_zero, List.set_cons_succ]
     refine wpAnyH_take (i := 3) (v := .bool rd) rfl (by kernel_rfl) (by kernel_rfl) (by kernel_rfl) (fun _ _ _ h => h) (Or.inl ⟨by rfl, fun w hSw => ?_⟩) hC0 ?_
     ·go_simp
     simp only [Act.put, List.getElem_toArray, List.getElem_cons_zero, List.getElem_cons_succ, List.setIfInBounds_toArray, List.set_cons_zero, List.set_cons_succ]
     refine wpAnyH_take (i := 4) (v := .pointer (some ⟨K, 0, none⟩)) rfl (by kernel_rfl) (by kernel_rfl) (by kernel_rfl) (fun _ _ _ h => h) (Or.inl ⟨by rfl, fun w hSw => ?_⟩) hC0 ?_
     ·go_simp
     simp only [Act.put, List.getElem_toArray, List.getElem_cons_zero, List.getElem_cons_succ, List.setIfInBounds_toArray, List.set_cons_zero, List.set_cons_succ]
     refine wpAnyH_take (i := 5) (v := .pointer (some ⟨K, 0, none⟩)) rfl (by kernel_rfl) (by kernel_rfl) (by kernel_rfl) (fun _ _ _ h => h) (Or.inl ⟨by rfl, fun w hSw => ?_⟩) hC0 ?_
     ·go_simp
     simp only [Act.put, List.getElem_toArray, List.getElem_cons_zero, List.getElem_cons_succ, List.setIfInBounds_toArray, List.set_cons_zero, List.set_cons_succ]
     refine wpAnyH_all (rs := [6]) (by kernel_rfl) (by simp) (fun j hj => ?_)
     obtain rfl : j = 6 := by simpa using hj
     refine Or.inl ?_
     have m0 := block_cell (j := 0) HKy.out rfl
     have n0 := block_free (j := 0) HKy.out
     have Hu7 := Lib.hid (show Upd (fun b => b = K) x0 (x0.setCell ⟨K, 0, none⟩ (.slice a6 rl.length c6)) from (Upd.refl (fun b => b = K) _).setCell (p := ⟨K, 0, none⟩) (fun _ => rfl) _)
     have Hs0 := Lib.hid (block_setCell (j := 0) HKy.out (.slice a6 rl.length c6))
     have hq := (show _ ∧ _ from hC0)
     have hC1 : In (fun x : World => x.cell? ⟨w.heap.size, 0, none⟩ = some (.pointer (some ⟨K, 0, none⟩)) ∧ x.cell? ⟨D6, 0, none⟩ = some (.slice a6 rl.length c6)) (x0.setCell ⟨K, 0, none⟩ (.slice a6 rl.length c6)) := show (fun x : World => x.cell? ⟨w.heap.size, 0, none⟩ = some (.pointer (some ⟨K, 0, none⟩)) ∧ x.cell? ⟨D6, 0, none⟩ = some (.slice a6 rl.length c6)) (x0.setCell ⟨K, 0, none⟩ (.slice a6 rl.length c6)) from ⟨Hu7.out.cell hq.1 (fun e => by have e2 : w.heap.size = K := e; omega), Hu7.out.cell hq.2 (fun e => by have e2 : D6 = K := e; omega)⟩
     clear hq
     go_wp2_with fail
     first | refine ⟨hC1, ?_⟩ | skip
     change wpAnyH _ _ _ _ _ _ _ _ (x0.setCell ⟨K, 0, none⟩ (.slice a6 rl.length c6))
     clear m0 n0
     generalize x0.setCell ⟨K, 0, none⟩ (.slice a6 rl.length c6) = x1 at *
     refine wpAnyH_take (i := 7) (v := .pointer (some ⟨K, 0, none⟩)) rfl (by kernel_rfl) (by kernel_rfl) (by kernel_rfl) (fun _ _ _ h => h) (Or.inl ⟨by rfl, fun w hSw => ?_⟩) hC1 ?_
     ·go_simp
     simp only [Act.put, List.getElem_toArray, List.getElem_cons_zero, List.getElem_cons_succ, List.setIfInBounds_toArray, List.set_cons_zero, List.set_cons_succ]
     refine wpAnyH_take (i := 8) (v := .pointer (some ⟨K, 1, none⟩)) rfl (by kernel_rfl) (by kernel_rfl) (by kernel_rfl) (fun _ _ _ h => h) (Or.inl ⟨by rfl, fun w hSw => ?_⟩) hC1 ?_
     ·go_simp
     simp only [Act.put, List.getElem_toArray, List.getElem_cons_zero, List.getElem_cons_succ, List.setIfInBounds_toArray, List.set_cons_zero, List.set_cons_succ]
     refine wpAnyH_all (rs := [9]) (by kernel_rfl) (by simp) (fun j hj => ?_)
     obtain rfl : j = 9 := by simpa using hj
     refine Or.inl ?_
     have m0 := block_cell (j := 1) Hs0.out rfl
     have n0 := block_free (j := 1) Hs0.out
     have Hu8 := Lib.hid (show Upd (fun b => b = K) x1 (x1.setCell ⟨K, 1, none⟩ (.bool rd)) from (Upd.refl (fun b => b = K) _).setCell (p := ⟨K, 1, none⟩) (fun _ => rfl) _)
     have Hs1 := block_setCell (j := 1) Hs0.out (.bool rd)
     simp only [List.setIfInBounds_toArray, List.set_cons_zero, List.set_cons_succ] at Hs1
     have hq := (show _ ∧ _ from hC1)
     have hC2 : In (fun x : World => x.cell? ⟨w.heap.size, 0, none⟩ = some (.pointer (some ⟨K, 0, none⟩)) ∧ x.cell? ⟨D6, 0, none⟩ = some (.slice a6 rl.length c6)) (x1.setCell ⟨K, 1, none⟩ (.bool rd)) := show (fun x : World => x.cell? ⟨w.heap.size, 0, none⟩ = some (.pointer (some ⟨K, 0, none⟩)) ∧ x.cell? ⟨D6, 0, none⟩ = some (.slice a6 rl.length c6)) (x1.setCell ⟨K, 1, none⟩ (.bool rd)) from ⟨Hu8.out.cell hq.1 (fun e => by have e2 : w.heap.size = K := e; omega), Hu8.out.cell hq.2 (fun e => by have e2 : D6 = K := e; omega)⟩
     clear hq
     have HB9 := hRb _ hR7
     have HEnd := Lib.hid (show Upd (fun b => b = K) w (x1.setCell ⟨K, 1, none⟩ (.bool rd)) ∧ ∃ v', (x1.setCell ⟨K, 1, none⟩ (.bool rd)).heap[K]? = some (.cells #[v', .bool rd] 145 (0, 0)) ∧ OwnF w.heap.size (x1.setCell ⟨K, 1, none⟩ (.bool rd)) v' rl from
      ⟨(((upd_of_below HB9).weaken fun b hb h => by have h2 : w.heap.size ≤ b := h; omega).trans Hu7.out (fun _ _ h => h)).trans Hu8.out (fun _ _ h => h), _, Hs1, ((HO7.out.upd Hu7.out (fun b hb _ e => by have e2 : b = K := e; omega)).upd Hu8.out (fun b hb _ e => by have e2 : b = K := e; omega))⟩)
     clear Hs1 HB9
     go_wp2_with fail
     first | refine ⟨by kernel_rfl, ?_⟩ | refine ⟨hC2, by kernel_rfl, ?_⟩
     first | change Exit.then _ _ _ _ (x1.setCell ⟨K, 1, none⟩ (.bool rd)) | change Exit.inBlock _ _ _ _ (x1.setCell ⟨K, 1, none⟩ (.bool rd))
     clear m0 n0 hC2
     generalize x1.setCell ⟨K, 1, none⟩ (.bool rd) = x2 at *
     go_wp2_with fail
     go_ret
     exact ⟨ret_int HE.out.symm, fun h => absurd HE.out h, fun _ => by rw [HL.out, HD.out]; exact HEnd.out⟩
  case neg =>
   rw [if_neg g1] at HE HL HD
   have qk : (a.kind == 1) = false := by simpa using g1
   by_cases g2 : a.kind = 2
   case pos =>
    rw [if_pos g2] at HE HL
    have qk2 : (a.kind == 2) = true := by simpa using g2
    clear g1 g2
    have HBe := Lib.hid (fun x (hx : In R x) => best_any l _ _ x (H.out.below (hRb _ hx)))
    go_enter Tryz.func100, Tryz.ntmps100
    go_wp2_with fail
    refine (HFo.out _ hR1).mono ?_
    rintro e w1 ⟨rfl, hb1⟩
    have hR2 := hRn _ _ hR1 hb1
    clear hb1 jj b0 b1 b2 b3 b4 b5 b6
    have b0 := a0 _ hR2
    have jj := j0 _ hR2
    have kk := k0 _ hR2
    go_wp2_with fail
    refine (HBe.out _ hR2).mono ?_
    rintro e w2 ⟨rfl, hb2⟩
    have hR3 := hRn _ _ hR2 hb2
    clear hb2 b0 jj kk HBe
    have hbl : best l < 3 := by have := best_lt (l := l) (by have := HC.out.len; omega); have := HC.out.len; omega
    generalize hbe : best l = bi at *
    clear hbe
    have hR4 := hR.alloc _ (.cells #[.int .i64 (bi : Int)] 3) hR3
    have HDb := Lib.hid (heap_alloc_new w2 (.cells #[.int .i64 (bi : Int)] 3))
    have b1 := a1 _ hR4
    have jj := j0 _ hR4
    have HBk := Lib.hid (hRb _ hR4)
    have HWi := Lib.hid (clerkWith_any K 164 i sa sc false #[.pointer (some ⟨w.heap.size, 0, none⟩), .pointer (some ⟨w2.heap.size, 0, none⟩)] l _ _ S (fun x => x.heap[K]? = some (.cells #[.slice sa 3 sc, .bool false] 145 (0, 0)) ∧ x.heap[w.heap.size]? = some (.cells #[.pointer (some ⟨K, 0, none⟩)] 143 (0, 0)) ∧ x.heap[w2.heap.size]? = some (.cells #[.int .i64 (bi : Int)] 3 (0, 0)) ∧ RepsV S x (.slice sa 3 sc) l) (w2.alloc (.cells #[.int .i64 (bi : Int)] 3)) (HKx.out _ hR4) (H.out.below (hRb _ hR4)) HC.out.len hi3
     ⟨HKx.out _ hR4, HJ.out _ hR4, HDb.out, H.out.below (hRb _ hR4)⟩ (fun x z h hb => ⟨blk_below h.1 hb, blk_below h.2.1 hb, blk_below h.2.2.1 hb, h.2.2.2.below hb⟩) (fun _ _ => rfl)
     (fun x sv rv ov uv S2 hx hr => do1_any K w.heap.size w2.heap.size bi sa sc false l (rep l i) sv rv ov uv S S2 x hx.1 hx.2.1 hx.2.2.1 hx.2.2.2 HC.out.len hbl hr ((checkStore_zero (repCheck_store (rep_right.2 (HC.out.each bi hbl)))).1) (repCheck_store (rep_right.2 (HC.out.each i hi3)))))
    rw [← Hi.out] at HWi
    go_wp2_with fail
    refine HWi.out.mono ?_
    rintro e x9 ⟨rfl, h1, h2⟩
    have HW := Lib.hid (And.intro h1 h2)
    clear h1 h2
    go_wp2_with fail
    go_ret
    refine ⟨ret_int HE.out.symm, fun h => ?_, fun h => ?_⟩
    ·exact HBk.out.trans ((HW.out.1 (by rw [← HE.out]; exact h)).mono HBk.out.size)
    ·obtain ⟨hu, v9, hk9, ho9⟩ := HW.out.2 (by rw [← HE.out]; exact h)
     rw [HL.out, HD.out]
     exact ⟨((upd_of_below HBk.out).weaken fun b hb h => by have h2 : w.heap.size ≤ b := h; omega).trans hu (fun _ _ h => h), v9, hk9, ho9.mono HBk.out.size⟩
   case neg =>
    rw [if_neg g2] at HE HL
    have qk2 : (a.kind == 2) = false := by simpa using g2
    clear g1 g2
    go_enter Tryz.func100, Tryz.ntmps100
    go_wp2_with fail
    refine (HFo.out _ hR1).mono ?_
    rintro e w1 ⟨rfl, hb1⟩
    have hR2 := hRn _ _ hR1 hb1
    clear hb1 jj b0 b1 b2 b3 b4 b5 b6
    have b0 := a0 _ hR2
    have b1 := a1 _ hR2
    have jj := j0 _ hR2
    have HBk := Lib.hid (hRb _ hR2)
    have hrc := rep_right.2 (HC.out.each i hi3)
    have HWi := Lib.hid (clerkWith_any K 23 i sa sc false #[] l (idleR (rep l i)) 0 S (fun _ => True) w1 (HKx.out _ hR2) (H.out.below (hRb _ hR2)) HC.out.len hi3 trivial (fun _ _ _ _ => trivial) (fun _ _ => rfl)
     (fun x sv rv ov uv S2 _ hr => by
      have hC := crash_any (rep l i) sv rv ov uv S2 x hr
      rw [hrc, show craR (rep l i) = idleR (rep l i) by unfold craR; rw [if_pos hrc]] at hC
      exact hC))
    rw [← Hi.out] at HWi
    go_wp2_with fail
    refine HWi.out.mono ?_
    rintro e x9 ⟨rfl, h1, h2⟩
    have HW := Lib.hid (And.intro h1 h2)
    clear h1 h2
    go_wp2_with fail
    go_ret
    refine ⟨ret_int HE.out.symm, fun h => ?_, fun h => ?_⟩
    ·exact absurd HE.out h
    ·obtain ⟨hu, v9, hk9, ho9⟩ := HW.out.2 (by first | trivial | rfl)
     rw [HL.out, HD.out]
     exact ⟨((upd_of_below HBk.out).weaken fun b hb h => by have h2 : w.heap.size ≤ b := h; omega).trans hu (fun _ _ h => h), v9, hk9, ho9.mono HBk.out.size⟩
end Go.Proofs.YtjdgpgfiomnjkaaGreatDoor
namespace Go.Proofs.YtjdgpgfiomnjkaaGreatDoor
open Go.RowKit
set_option linter.unusedVariables false
set_option linter.unusedSimpArgs false
theorem raw_sub {l a : List Obj} (hs : ∀ x ∈ l, x ∈ a) (ha : Rising a) : rawE l a = 0 ∧ rawL l a = [] := by
 have h0 : rawE l a = 0 := rawE_zero.2 fun x hx _ => (ha.isAt_mem (hs x hx)).2
 refine ⟨h0, ?_⟩
 unfold rawL
 rw [if_pos h0]
 unfold missL
 rw [List.filter_eq_nil_iff]
 intro x hx
 unfold lacks
 rw [(ha.isAt_mem (hs x hx)).1]; simp
theorem with_ok {l more : List Obj} (h : withE l more = 0) : checkStore (withL l more) = 0 ∧ ∀ x, x ∈ withL l more ↔ x ∈ l ∨ x ∈ more := by
 have e : withL l more = joined l more more.length := by unfold withL; rw [if_pos h]
 unfold withE at h
 by_cases h2 : scan (joinErr l more) more.length = 0
 ·rw [if_pos h2] at h
  rw [e]
  exact ⟨h, fun x => by rw [joined_mem (Nat.le_refl _) h2 x, List.take_length]⟩
 ·rw [if_neg h2] at h; exact absurd h h2
structure Mended (n r a : Rep) : Prop where
 newer : repCheck n = 0
 older : repCheck r = 0
 refs : a.refs = n.refs
 gen : a.gen = n.gen
 phase : a.phase = 0
 pend : a.pend = psh0
 store : checkStore a.store = 0
 mem : ∀ x, x ∈ a.store ↔ x ∈ r.store ∨ x ∈ n.store
theorem mended {n r : Rep} (h : fromE n r = 0) : Mended n r (fromR n r) := by
 have hR : fromR n r = repairR n r := by unfold fromR; rw [if_pos h]
 unfold fromE at h
 split at h
 ·rename_i h1; exact absurd h h1
 ·rename_i h1
  split at h
  ·rename_i h2; exact absurd h h2
  ·rename_i h2
   have hn : repCheck n = 0 := by simpa using h1
   have hr : repCheck r = 0 := by simpa using h2
   have hR2 : repairR n r = ⟨withL r.store (rawL n.store r.store), n.refs, n.gen, 0, psh0⟩ := by unfold repairR; rw [if_pos h]
   unfold repairE at h
   split at h
   ·cases h
   ·split at h
    ·rename_i h3; exact absurd h h3
    ·rename_i h3
     have h4 : rawE n.store r.store = 0 := by simpa using h3
     obtain ⟨hc, hm⟩ := with_ok h
     rw [hR, hR2]
     refine ⟨hn, hr, rfl, rfl, rfl, rfl, hc, fun x => ?_⟩
     rw [hm]
     have hl : rawL n.store r.store = missL n.store r.store := by unfold rawL; rw [if_pos h4]
     rw [hl]
     constructor
     ·rintro (hx | hx)
      ·exact .inl hx
      ·exact .inr (mem_miss.1 hx).1
     ·rintro (hx | hx)
      ·exact .inl hx
      ·cases hi : isAt r.store x.id
       ·exact .inr (mem_miss.2 ⟨hx, hi⟩)
       ·left
        have := rawE_zero.1 h4 x hx hi
        rw [← this]
        exact obj_mem (isAt_spec hi).1
theorem kind_sub {l a : List Obj} (hs : ∀ x ∈ l, x ∈ a) (ha : Rising a) {id : Int} {k : Int} (h : kindOf l id = k) (hk : k ≠ 0) : kindOf a id = k := by
 obtain ⟨j, hj, he, hkj⟩ := kind_place (by rw [h]; exact hk)
 obtain ⟨i, hi, e⟩ := mem_obj (hs _ (obj_mem hj))
 have := ha.kind_self hi
 rw [e, he] at this
 rw [this, ← hkj, h]
theorem refs_sub {l : List Rf} {s a : List Obj} (hs : ∀ x ∈ s, x ∈ a) (ha : checkStore a = 0) (h : checkRefs l s = 0) : checkRefs l a = 0 := by
 have hs0 := (checkRefs_zero.1 h).1
 have h1 : rightErr l s = 0 := by unfold checkRefs at h; rw [if_neg (by simpa using hs0)] at h; exact h
 have e : ∀ i, i < l.length → refErr l s i = 0 → refErr l a i = 0 := fun i hi h0 => by
  rw [refErr_zero] at h0 ⊢
  exact ⟨h0.1, h0.2.1, kind_sub hs (checkStore_rising ha) h0.2.2 (by decide)⟩
 unfold checkRefs
 rw [if_neg (by simpa using ha)]
 unfold rightErr at h1 ⊢
 split at h1
 ·cases h1
 ·rename_i h8
  rw [if_neg h8]
  split at h1
  ·rename_i h2; exact absurd h1 h2
  ·rename_i h2
   have h3 : scan (refErr l s) l.length = 0 := by simpa using h2
   have h4 : scan (refErr l a) l.length = 0 := scan_of_zero fun i hi => e i hi (scan_zero h3 i hi)
   rw [if_neg (by simpa using h4)]; exact h1
theorem repCheck_of {r : Rep} (h : repCheck r = 0) : checkRefs r.refs r.store = 0 ∧ within r.gen 0 999 = true := by
 unfold repCheck at h
 split at h
 ·rename_i h1; exact absurd h h1
 ·rename_i h1
  refine ⟨by simpa using h1, ?_⟩
  split at h
  ·cases h
  ·rename_i h2; simpa using h2
theorem Mended.right {n r a : Rep} (h : Mended n r a) : repCheck a = 0 := by
 obtain ⟨h1, h2⟩ := repCheck_of h.newer
 unfold repCheck
 have hc : checkRefs a.refs a.store = 0 := by rw [h.refs]; exact refs_sub (fun x hx => (h.mem x).2 (.inr hx)) h.store h1
 rw [if_neg (by simpa using hc), h.gen, h2, h.phase, h.pend]
 simp [within, emptyB, psh0]
theorem Mended.diff {n r a : Rep} (h : Mended n r a) {s : List Obj} (hc : checkStore s = 0) (hs : ∀ x ∈ s, x ∈ a.store) : diffE s a.store = 0 ∧ diffL s a.store = [] := by
 obtain ⟨e1, e2⟩ := raw_sub hs (checkStore_rising h.store)
 have h0 : diffE s a.store = 0 := by unfold diffE; rw [if_neg (by simpa using hc), if_neg (by simpa using h.store)]; exact e1
 refine ⟨h0, ?_⟩
 unfold diffL; rw [if_pos h0]
 unfold rawL at e2; rw [if_pos e1] at e2; exact e2
end Go.Proofs.YtjdgpgfiomnjkaaGreatDoor
namespace Go.Proofs.YtjdgpgfiomnjkaaGreatDoor
open Go.RowKit
set_option linter.unusedVariables false
set_option linter.unusedSimpArgs false
theorem repair_mended {n r : Rep} (hn : RightR n) (hr : RightR r) (h : repairE n r = 0) : Mended n r (repairR n r) := by
 have e1 : fromE n r = 0 := by
  unfold fromE
  rw [if_neg (by simpa using rep_right.2 hn), if_neg (by simpa using rep_right.2 hr)]; exact h
 have e2 : fromR n r = repairR n r := by unfold fromR; rw [if_pos e1]
 rw [← e2]; exact mended e1
theorem best_three {l : List Rep} (hl : l.length = 3) : best l < 3 ∧ ∀ k, k < 3 → (rep l k).gen ≤ (rep l (best l)).gen := by
 refine ⟨by have := best_lt (l := l) (by omega); omega, fun k hk => (best_inv l l.length).1 k (by omega)⟩
structure SetR (l : List Rep) (i : Nat) (r : Rep) : Prop where
 i3 : i < 3
 right : RightR r
 has : ∃ m, m < 3 ∧ r.gen = (rep l m).gen ∧ r.refs = (rep l m).refs ∧ (m = i ∨ m = best l)
theorem SetR.at {l : List Rep} {i : Nat} {r : Rep} (h : SetR l i r) (hc : RightC l) {k : Nat} (hk : k < 3) : ∃ m, m < 3 ∧ (rep (l.set i r) k).gen = (rep l m).gen ∧ (rep (l.set i r) k).refs = (rep l m).refs ∧ (m = k ∨ m = best l) := by
 rw [rep_set (by have := hc.len; omega)]
 by_cases e : k = i
 ·subst e; rw [if_pos rfl]; exact h.has
 ·rw [if_neg e]; exact ⟨k, hk, rfl, rfl, .inl rfl⟩
theorem SetR.top {l : List Rep} {i : Nat} {r : Rep} (h : SetR l i r) (hc : RightC l) {k : Nat} (hk : k < 3) (hg : (rep l k).gen = (rep l (best l)).gen) : (rep (l.set i r) k).gen = (rep l (best l)).gen := by
 obtain ⟨m, _, e, _, h4⟩ := h.at hc hk
 rw [e]
 rcases h4 with rfl | rfl
 ·exact hg
 ·rfl
theorem SetR.most {l : List Rep} {i : Nat} {r : Rep} (h : SetR l i r) (hc : RightC l) {k : Nat} (hk : k < 3) : (rep (l.set i r) k).gen ≤ (rep l (best l)).gen := by
 obtain ⟨m, hm, e, _, _⟩ := h.at hc hk
 rw [e]; exact (best_three hc.len).2 m hm
theorem set_right {l : List Rep} {i : Nat} {r : Rep} (hc : RightC l) (h : SetR l i r) : RightC (l.set i r) := by
 obtain ⟨hb, hm⟩ := best_three hc.len
 refine ⟨by rw [List.length_set]; exact hc.len, fun k hk => ?_, fun a b ha hb2 e => ?_, ?_⟩
 ·rw [rep_set (by have := hc.len; omega)]
  split
  ·exact h.right
  ·exact hc.each k hk
 ·obtain ⟨m, m3, e1, e2, _⟩ := h.at hc ha
  obtain ⟨n, n3, e3, e4, _⟩ := h.at hc hb2
  rw [e2, e4]
  exact hc.refs m n m3 n3 (by rw [← e1, ← e3]; exact e)
 ·obtain ⟨x, y, hxy, hy, exy, hmx⟩ := hc.top
  have gx : (rep l x).gen = (rep l (best l)).gen := by have := hm x (by omega); have := hmx _ hb; omega
  have gy : (rep l y).gen = (rep l (best l)).gen := by omega
  exact ⟨x, y, hxy, hy, by rw [h.top hc (by omega) gx, h.top hc hy gy], fun k hk => by rw [h.top hc (by omega) gx]; exact h.most hc hk⟩
theorem set_top {l : List Rep} {i : Nat} {r : Rep} (hc : RightC l) (h : SetR l i r) : (rep (l.set i r) (best (l.set i r))).gen = (rep l (best l)).gen ∧ (rep (l.set i r) (best (l.set i r))).refs = (rep l (best l)).refs := by
 have hc' := set_right hc h
 obtain ⟨hb, hm⟩ := best_three hc.len
 obtain ⟨hb', hm'⟩ := best_three hc'.len
 have e : (rep (l.set i r) (best (l.set i r))).gen = (rep l (best l)).gen := by
  have h1 := h.most hc hb'
  have h2 := hm' _ hb
  rw [h.top hc hb rfl] at h2
  omega
 refine ⟨e, ?_⟩
 obtain ⟨m, m3, e1, e2, _⟩ := h.at hc hb'
 rw [e2]
 exact hc.refs m _ m3 hb (by rw [← e1]; exact e)
theorem act_not_push {l : List Rep} {a : Ac} (hc : RightC l) (he : actE l a = 0) (hk : a.kind ≠ 1) : ∃ i r, actL l a = l.set i r ∧ SetR l i r := by
 have hf : formE a = 0 := by unfold actE at he; split at he; rename_i h; exact absurd he h; rename_i h; simpa using h
 obtain ⟨_, _, h3, h4⟩ := form_zero hf
 have hi : a.on.toNat < 3 := by omega
 unfold actE at he
 rw [if_neg (by simpa using hf), if_neg hk] at he
 unfold actL
 rw [if_neg hk]
 by_cases h2 : a.kind = 2
 ·rw [if_pos h2] at he ⊢
  have hb := (best_three hc.len).1
  have hm := repair_mended (hc.each _ hb) (hc.each _ hi) he
  exact ⟨_, _, rfl, hi, rep_right.1 hm.right, best l, hb, hm.gen, hm.refs, .inr rfl⟩
 ·rw [if_neg h2]
  exact ⟨_, _, rfl, hi, idle_right (hc.each _ hi), _, hi, rfl, rfl, .inl rfl⟩
theorem act_right {l : List Rep} {a : Ac} (hc : RightC l) (he : actE l a = 0) : RightC (actL l a) := by
 by_cases hk : a.kind = 1
 ·have hp : pushRE l a.push a.up a.late = 0 := by
   unfold actE at he
   split at he
   ·rename_i h; exact absurd he h
   ·first | exact he | (rw [if_pos hk] at he; exact he)
  unfold actL; rw [if_pos hk]; exact push_right hc hp
 ·obtain ⟨i, r, e, h⟩ := act_not_push hc he hk
  rw [e]; exact set_right hc h
def ac0 : Ac := ⟨0, 0, 0, 0, psh0⟩
def ac (l : List Ac) (i : Nat) : Ac := at_ ac0 l i
def stepL (l : List Rep) (a : Ac) : List Rep := if actE l a = 0 then actL l a else l
def toldB (l : List Rep) (a : Ac) : Bool := if actE l a = 0 then actD l a else false
def new3 : List Rep := [rep0, rep0, rep0]
def runL (s : List Ac) : Nat → List Rep
 | 0 => new3
 | k + 1 => stepL (runL s k) (ac s k)
def runD (s : List Ac) : Nat → List Bool
 | 0 => []
 | k + 1 => runD s k ++ [toldB (runL s k) (ac s k)]
def runE (s : List Ac) : Nat → List Int
 | 0 => []
 | k + 1 => runE s k ++ [actE (runL s k) (ac s k)]
theorem runD_length (s : List Ac) : ∀ k, (runD s k).length = k
 | 0 => rfl
 | k + 1 => by unfold runD; rw [List.length_append, runD_length s k]; rfl
theorem runE_length (s : List Ac) : ∀ k, (runE s k).length = k
 | 0 => rfl
 | k + 1 => by unfold runE; rw [List.length_append, runE_length s k]; rfl
theorem new_right : RightC new3 := clu_right.1 (by decide +kernel)
theorem step_right {l : List Rep} {a : Ac} (h : RightC l) : RightC (stepL l a) := by
 unfold stepL
 split
 ·exact act_right h (by assumption)
 ·exact h
theorem run_right (s : List Ac) : ∀ k, RightC (runL s k)
 | 0 => new_right
 | k + 1 => step_right (run_right s k)
end Go.Proofs.YtjdgpgfiomnjkaaGreatDoor
namespace Go.Proofs.YtjdgpgfiomnjkaaGreatDoor
open Go.RowKit
set_option linter.unusedVariables false
set_option linter.unusedSimpArgs false
def topG (l : List Rep) : Int := (rep l (best l)).gen
theorem show_same {l l' : List Rep} (hc : RightC l) (hc' : RightC l') (hg : topG l' = topG l) (hr : (rep l' (best l')).refs = (rep l (best l)).refs) : showC l' = showC l := by
 unfold showC
 rw [if_pos (clu_right.2 hc), if_pos (clu_right.2 hc')]
 unfold showR
 rw [hr, show (rep l' (best l')).gen = (rep l (best l)).gen from hg]
structure StayL (l l' : List Rep) (a : Ac) (d : Bool) : Prop where
 grown : topG l' - topG l = 0 ∨ topG l' - topG l = 1
 push : a.kind = 1 → (d = true ↔ topG l' - topG l = 1)
 same : topG l' - topG l = 0 → showC l' = showC l
theorem same_reps {l m : List Rep} (hl : l.length = 3) (hm : m.length = 3) (h : ∀ i, i < 3 → rep m i = rep l i) : m = l := by
 rw [reps_three hl, reps_three hm, h 0 (by omega), h 1 (by omega), h 2 (by omega)]
theorem top_is {l : List Rep} (hc : RightC l) {i : Nat} (hi : i < 3) {g : Int} (e : (rep l i).gen = g) (h : ∀ k, k < 3 → (rep l k).gen ≤ g) : topG l = g := by
 obtain ⟨hb, hm⟩ := best_three hc.len
 have h1 := hm i hi
 have h2 := h _ hb
 unfold topG
 omega
theorem push_stay {l : List Rep} {p : Psh} {up late : Int} (hc : RightC l) (he : pushRE l p up late = 0) :
  (pushDo l p up late = false → pushRL l p up late = l) ∧ (pushDo l p up late = true → topG (pushRL l p up late) = topG l + 1) := by
 have hat : ∀ i, i < 3 → rep (pushRL l p up late) i = pushAt l p up late i := fun i hi => pushRL_at he hi
 have hlen : (pushRL l p up late).length = 3 := by unfold pushRL; rw [if_pos he]; rfl
 refine ⟨fun hd => same_reps hc.len hlen fun i hi => by rw [hat i hi]; exact pushAt_not (by simp [hd]), fun hd => ?_⟩
 obtain ⟨i, j, hij, hj, Ci, Cj, ci, cj, hm⟩ := comm_top hc hd
 have hG : topG l = (rep l i).gen := top_is hc (show i < 3 by omega) rfl hm
 rw [hG]
 refine top_is (push_right hc he) (show i < 3 by omega) ?_ fun k hk => ?_
 ·rw [hat i (by omega), pushAt_done hd ci]; rfl
 ·rw [hat k hk]
  cases hb : commB l p up late k
  ·rw [pushAt_not (by simp [hb])]; have := hm k hk; omega
  ·rw [pushAt_done hd hb]
   have : (rep l k).gen = (rep l i).gen := comm_gen hc hk (by omega) (comm_of hb) Ci
   show (rep l k).gen + 1 ≤ _; omega
theorem stayL {l : List Rep} {a : Ac} (hc : RightC l) (he : actE l a = 0) : StayL l (actL l a) a (actD l a) := by
 by_cases hk : a.kind = 1
 ·have hp : pushRE l a.push a.up a.late = 0 := by
   unfold actE at he
   split at he
   ·rename_i h; exact absurd he h
   ·first | exact he | (rw [if_pos hk] at he; exact he)
  have e1 : actL l a = pushRL l a.push a.up a.late := by unfold actL; rw [if_pos hk]
  have e2 : actD l a = pushDo l a.push a.up a.late := by unfold actD; rw [if_pos hk]; unfold pushRD; rw [if_pos hp]
  rw [e1, e2]
  obtain ⟨h1, h2⟩ := push_stay hc hp
  cases hd : pushDo l a.push a.up a.late
  ·rw [h1 hd]
   exact ⟨.inl (by omega), fun _ => ⟨fun h => (by cases h), fun h => (by omega)⟩, fun _ => rfl⟩
  ·have := h2 hd
   exact ⟨.inr (by omega), fun _ => ⟨fun _ => by omega, fun _ => rfl⟩, fun h => by omega⟩
 ·obtain ⟨i, r, e, h⟩ := act_not_push hc he hk
  rw [e]
  obtain ⟨h1, h2⟩ := set_top hc h
  have h3 : topG (l.set i r) = topG l := h1
  exact ⟨.inl (by omega), fun h => absurd h hk, fun _ => show_same hc (set_right hc h) h3 h2⟩
end Go.Proofs.YtjdgpgfiomnjkaaGreatDoor
namespace Go.Proofs.YtjdgpgfiomnjkaaGreatDoor
open Go.RowKit
set_option linter.unusedVariables false
set_option linter.unusedSimpArgs false
def dofL (l : List Rep) (a : Ac) : List Rep := if actE l a = 0 then actL l a else []
def dofD (l : List Rep) (a : Ac) : Bool := if actE l a = 0 then actD l a else false
end Go.Proofs.YtjdgpgfiomnjkaaGreatDoor
namespace Go.Proofs.YtjdgpgfiomnjkaaGreatDoor
open Go.RowKit
set_option linter.unusedVariables false
set_option linter.unusedSimpArgs false
theorem ac_lt {l : List Ac} {i : Nat} (h : i < l.length) : ac l i = l[i] := at_lt h
structure AV where
 o : Value
 u : Value
def acC (a : Ac) (x : AV) : List Value := [.int .i64 a.kind, .int .i64 a.on, .int .i64 a.up, .int .i64 a.late, x.o, x.u, .bool a.push.force]
def ActsV (S : Nat → Prop) (w : World) (v : Value) (l : List Ac) : Prop :=
 ∃ vs : Nat → AV, Sl S w v 7 88 l.length (fun i => acC (ac l i) (vs i)) ∧ ∀ i, i < l.length → ActIs S w (ac l i) (vs i).o (vs i).u
theorem ActsV.below {S : Nat → Prop} {w w' : World} {v : Value} {l : List Ac} (h : ActsV S w v l) (hb : Below w.heap.size w w') : ActsV S w' v l :=
 let ⟨vs, h1, h2⟩ := h; ⟨vs, h1.below hb, fun i hi => (h2 i hi).below hb⟩
theorem ActsV.weaken {S S' : Nat → Prop} {w : World} {v : Value} {l : List Ac} (h : ActsV S w v l) (hs : ∀ b, S b → S' b) : ActsV S' w v l :=
 let ⟨vs, h1, h2⟩ := h; ⟨vs, h1.weaken hs, fun i hi => (h2 i hi).weaken hs⟩
theorem ActsV.vshape {S : Nat → Prop} {w : World} {v : Value} {l : List Ac} (h : ActsV S w v l) : ∃ a c, v = .slice a l.length c :=
 let ⟨_, ⟨a, cap, hv, _⟩, _⟩ := h; ⟨a, cap, hv⟩
structure AA where
 oa : Option Addr
 oc : Nat
 ua : Option Addr
 uc : Nat
def AA.av (x : AA) (r : Ac) : AV := ⟨.slice x.oa r.push.objects.length x.oc, .slice x.ua r.push.updates.length x.uc⟩
theorem ActIs.aa {S : Nat → Prop} {w : World} {r : Ac} {x : AV} (h : ActIs S w r x.o x.u) : ∃ y : AA, x = y.av r := by
 obtain ⟨oa, oc, e3⟩ := StoreV.vshape h.objs
 obtain ⟨⟨ua, uc⟩, e4⟩ := MvsV.shape h.upds
 exact ⟨⟨oa, oc, ua, uc⟩, by cases x; simp_all [AA.av]⟩
theorem ActsV.open {S : Nat → Prop} {w : World} {v : Value} {l : List Ac} (h : ActsV S w v l) :
  ∃ a n cap, ∃ f : Nat → AA, Hid (n = l.length) ∧ v = .slice a n cap ∧ n ≤ cap ∧ cap ≤ 9223372036854775807 ∧ n * 88 ≤ 140737488351232 ∧
   (0 < n → ∃ b off, a = some ⟨b, off, none⟩ ∧ S b ∧
    (∀ i x, i < n → Below w.heap.size w x → x.cell? ⟨b, off + i * 7, none⟩ = some (.int .i64 (ac l i).kind)) ∧
    (∀ i x, i < n → Below w.heap.size w x → x.cell? ⟨b, off + i * 7 + 1, none⟩ = some (.int .i64 (ac l i).on)) ∧
    (∀ i x, i < n → Below w.heap.size w x → x.cell? ⟨b, off + i * 7 + 2, none⟩ = some (.int .i64 (ac l i).up)) ∧
    (∀ i x, i < n → Below w.heap.size w x → x.cell? ⟨b, off + i * 7 + 3, none⟩ = some (.int .i64 (ac l i).late)) ∧
    (∀ i x, i < n → Below w.heap.size w x → x.cell? ⟨b, off + i * 7 + 4, none⟩ = some (.slice (f i).oa (ac l i).push.objects.length (f i).oc)) ∧
    (∀ i x, i < n → Below w.heap.size w x → x.cell? ⟨b, off + i * 7 + 5, none⟩ = some (.slice (f i).ua (ac l i).push.updates.length (f i).uc)) ∧
    (∀ i x, i < n → Below w.heap.size w x → x.cell? ⟨b, off + i * 7 + 6, none⟩ = some (.bool (ac l i).push.force))) ∧
   (∀ i, i < n → ActIs S w (ac l i) (.slice (f i).oa (ac l i).push.objects.length (f i).oc) (.slice (f i).ua (ac l i).push.updates.length (f i).uc)) := by
 obtain ⟨vs, h1, h2⟩ := h
 have hp : ∃ f : Nat → AA, ∀ i, i < l.length → vs i = (f i).av (ac l i) := by
  refine ⟨fun i => if hi : i < l.length then Classical.choose (h2 i hi).aa else ⟨none, 0, none, 0⟩, fun i hi => ?_⟩
  simp only [hi, dif_pos]
  exact Classical.choose_spec (h2 i hi).aa
 obtain ⟨f, hf⟩ := hp
 obtain ⟨a, cap, hv, h3, h4, h5, h6⟩ := h1
 refine ⟨a, l.length, cap, f, rfl, hv, h3, h4, h5, fun hn => ?_, fun i hi => ?_⟩
 ·obtain ⟨b, off, ha, hS, hc⟩ := h6 hn
  have hc' : ∀ i x, i < l.length → Below w.heap.size w x → ∀ j u, (acC (ac l i) ((f i).av (ac l i)))[j]? = some u → x.cell? ⟨b, off + i * 7 + j, none⟩ = some u :=
   fun i x hi hb j u hu => below_cell hb (hc i hi j u (by show (acC (ac l i) (vs i))[j]? = some u; rw [hf i hi]; exact hu))
  exact ⟨b, off, ha, hS, fun i x hi hb => hc' i x hi hb 0 _ rfl, fun i x hi hb => hc' i x hi hb 1 _ rfl, fun i x hi hb => hc' i x hi hb 2 _ rfl, fun i x hi hb => hc' i x hi hb 3 _ rfl, fun i x hi hb => hc' i x hi hb 4 _ rfl, fun i x hi hb => hc' i x hi hb 5 _ rfl, fun i x hi hb => hc' i x hi hb 6 _ rfl⟩
 ·have := h2 i hi
  rw [hf i hi] at this; exact this
theorem Tryz.infoErr : (Tryz.prog.info? 33).map (fun i => (i.zero, i.size, i.bytes)) = some (some (.int .i64 0), 1, 8) := by kernel_rfl
theorem wpList_append_bool {ops : Array Oper} {rest : List Oper} {o : Oper} {a : Act} {w : World} {Q : Exit → Act → World → Prop} (hgd : o.guard = none) (s x : Operand)
  (ho : o.op = .call { callee := .builtin .append, args := #[s, x], argTypes := #[77, 77] }) {B n : Nat} {v : Value} {xs : List Value} {z : Bool}
  (hG : w.ownsRow B 4 1 v n xs) (hl : (n + 1) * 8 ≤ 140737488351232) (hB : B ≤ w.heap.size)
  (hs : a.eval s = v) {N : Nat} (hx : a.eval x = .slice (some ⟨N, 0, none⟩) 1 1) (hN : N = w.heap.size)
  (h : ∀ v' w', w'.ownsRow B 4 1 v' (n + 1) (xs ++ [.bool z]) → Upd (fun b => v.ownBlock = some b) w w' → (v'.ownBlock = v.ownBlock ∨ v'.ownBlock = some (w.heap.size + 1)) → wpList Tryz.prog ops Q rest (a.put o.dst v') w') :
  wpList Tryz.prog ops Q (o :: rest) a (w.alloc (.cells #[.bool z] 4)) := by
 subst hN
 obtain ⟨i0, hi, hz0, hz1, hz2⟩ := info_parts Tryz.infoBool
 refine wpList_append_own_at _ hgd s x 77 ho B 4 i0 _ 1 1 Tryz.underlying77 hi hz0 hz1 hz2 rfl (by decide) v n _ hs (hG.alloc _) ⟨w.heap.size, 0, none⟩ 1 1 [.bool z] hx rfl
  (World.news_of_block (cs := #[.bool z]) (t := 4) (fr := (0, 0)) (heap_alloc_new w _)) ?_ ?_ (by omega) (by simp; omega) ?_
 ·intro u hu
  simp only [List.mem_cons, List.not_mem_nil, or_false] at hu
  subst hu; rfl
 ·unfold maxLen; omega
 ·intro v' w' hown' hgrow _ hat
  exact h v' w' hown' (Upd.grown ((Upd.refl _ _).alloc _) hgrow (fun k hk _ => hk)) (by simpa using hat)
theorem wpList_append_err {ops : Array Oper} {rest : List Oper} {o : Oper} {a : Act} {w : World} {Q : Exit → Act → World → Prop} (hgd : o.guard = none) (s x : Operand)
  (ho : o.op = .call { callee := .builtin .append, args := #[s, x], argTypes := #[78, 78] }) {B n : Nat} {v : Value} {xs : List Value} {z : Int}
  (hG : w.ownsRow B 33 1 v n xs) (hl : (n + 1) * 8 ≤ 140737488351232) (hB : B ≤ w.heap.size)
  (hs : a.eval s = v) {N : Nat} (hx : a.eval x = .slice (some ⟨N, 0, none⟩) 1 1) (hN : N = w.heap.size)
  (h : ∀ v' w', w'.ownsRow B 33 1 v' (n + 1) (xs ++ [.int .i64 z]) → Upd (fun b => v.ownBlock = some b) w w' → (v'.ownBlock = v.ownBlock ∨ v'.ownBlock = some (w.heap.size + 1)) → wpList Tryz.prog ops Q rest (a.put o.dst v') w') :
  wpList Tryz.prog ops Q (o :: rest) a (w.alloc (.cells #[.int .i64 z] 33)) := by
 subst hN
 obtain ⟨i0, hi, hz0, hz1, hz2⟩ := info_parts Tryz.infoErr
 refine wpList_append_own_at _ hgd s x 78 ho B 33 i0 _ 1 8 Tryz.underlying78 hi hz0 hz1 hz2 rfl (by decide) v n _ hs (hG.alloc _) ⟨w.heap.size, 0, none⟩ 1 1 [.int .i64 z] hx rfl
  (World.news_of_block (cs := #[.int .i64 z]) (t := 33) (fr := (0, 0)) (heap_alloc_new w _)) ?_ ?_ (by omega) (by simp; omega) ?_
 ·intro u hu
  simp only [List.mem_cons, List.not_mem_nil, or_false] at hu
  subst hu; rfl
 ·unfold maxLen; omega
 ·intro v' w' hown' hgrow _ hat
  exact h v' w' hown' (Upd.grown ((Upd.refl _ _).alloc _) hgrow (fun k hk _ => hk)) (by simpa using hat)
end Go.Proofs.YtjdgpgfiomnjkaaGreatDoor
