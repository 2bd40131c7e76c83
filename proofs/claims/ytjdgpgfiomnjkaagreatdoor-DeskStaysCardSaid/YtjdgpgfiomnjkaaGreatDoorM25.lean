
/- DeskD: walk of desk.Do. -/
import Derived.Test.YtjdgpgfiomnjkaaGreatDoorM24
import Derived.Test.YtjdgpgfiomnjkaaGreatDoorM18
import Derived.Test.YtjdgpgfiomnjkaaGreatDoorM15
namespace Go.Proofs.YtjdgpgfiomnjkaaGreatDoor
open Go.RowKit
set_option linter.unusedVariables false
set_option linter.unusedSimpArgs false
def doE (l : List Rep) (a : Ac) : Int := if cluE l ≠ 0 then cluE l else actE l a
def doL (l : List Rep) (a : Ac) : List Rep := if doE l a = 0 then actL l a else []
def doD (l : List Rep) (a : Ac) : Bool := if doE l a = 0 then actD l a else false
set_option maxRecDepth 100000 in
set_option maxHeartbeats 16000000 in
theorem deskDo_any (l : List Rep) (a : Ac) (cv ov uv : Value) (S S1 : Nat → Prop) (w : World) (h : RepsV S w cv l) (ha : ActIs S1 w a ov uv) (ht : Tab w) :
  Calls Tryz.prog 37 #[.agg #[cv], actV a ov uv] w fun e w' => ∃ v', e = .returned (.tuple #[.agg #[v'], .bool (doD l a), .int .i64 (doE l a)]) ∧ OwnF w.heap.size w' v' (doL l a) ∧ Below w.heap.size w w' := by
 obtain ⟨oa, oc, rfl⟩ := ha.objs.vshape
 obtain ⟨⟨ua, uc⟩, rfl⟩ := ha.upds.shape
 obtain ⟨sa, sc, rfl⟩ := h.vshape
 have HA := Lib.hid ha
 have H := Lib.hid h
 have HTw := Lib.hid ht
 have HE := Lib.hid (show doE l a = if cluE l ≠ 0 then cluE l else actE l a from rfl)
 have HL := Lib.hid (show doL l a = if doE l a = 0 then actL l a else [] from rfl)
 have HD := Lib.hid (show doD l a = if doE l a = 0 then actD l a else false from rfl)
 obtain ⟨R, hR, hR1, HB0⟩ := cls_allocs w [.cells #[.slice sa l.length sc] 66, .cells #[.int .i64 a.kind, .int .i64 a.on, .int .i64 a.up, .int .i64 a.late, .slice oa a.push.objects.length oc, .slice ua a.push.updates.length uc, .bool a.push.force] 68, .cells #[.slice none 0 0] 66]
 simp only [List.foldl] at hR1
 have hRb := hR.below
 have hRn := hR.next
 have c0 := fun x (hx : In R x) => block_cell (j := 0) (HB0 x hx 0 _ rfl) rfl
 have a0 := fun x (hx : In R x) => block_cell (j := 0) (HB0 x hx 1 _ rfl) rfl
 have a1 := fun x (hx : In R x) => block_cell (j := 1) (HB0 x hx 1 _ rfl) rfl
 have a2 := fun x (hx : In R x) => block_cell (j := 2) (HB0 x hx 1 _ rfl) rfl
 have a3 := fun x (hx : In R x) => block_cell (j := 3) (HB0 x hx 1 _ rfl) rfl
 have a4 := fun x (hx : In R x) => block_cell (j := 4) (HB0 x hx 1 _ rfl) rfl
 have a5 := fun x (hx : In R x) => block_cell (j := 5) (HB0 x hx 1 _ rfl) rfl
 have a6 := fun x (hx : In R x) => block_cell (j := 6) (HB0 x hx 1 _ rfl) rfl
 simp only [Nat.add_zero] at c0
 have HZ := Lib.hid (fun x (hx : In R x) => show x.heap[w.heap.size + 2]? = some (.cells #[.slice none 0 0] 66 (0, 0)) from HB0 x hx 2 _ rfl)
 have HSz := Lib.hid (fun x (hx : In R x) => show w.heap.size + 3 ≤ x.heap.size from lt_of_block (HB0 x hx 2 _ rfl))
 clear HB0
 have HCk := Lib.hid (fun x (hx : In R x) => cluCheck_any l _ _ x (H.out.below (hRb _ hx)))
 have cc := c0 _ hR1
 clear h ha ht
 simp only [actV]
 by_cases hz : cluE l = 0
 case neg =>
  have HE2 := Lib.hid (show doE l a = cluE l by rw [HE.out, if_pos hz])
  have HL2 := Lib.hid (show doL l a = [] by rw [HL.out, HE2.out, if_neg hz])
  have HD2 := Lib.hid (show doD l a = false by rw [HD.out, HE2.out, if_neg hz])
  have q1 : (cluE l == 0) = false := by simpa using hz
  have q2 : (cluE l != 0) = true := by simpa using hz
  clear hz HE HL HD
  generalize cluE l = ce at *
  go_enter Tryz.func37, Tryz.ntmps37
  go_wp2_with fail
  refine (HCk.out _ hR1).mono ?_
  rintro e w1 ⟨rfl, hb1⟩
  have hR2 := hRn _ _ hR1 hb1
  clear cc hb1
  have cc := c0 _ hR2
  have hR3 := hR.alloc _ (.cells #[.slice sa l.length sc, .bool false] 145) hR2
  have HZW := Lib.hid (HZ.out _ hR3)
  have HBW := Lib.hid (hRb _ hR3)
  have gz := block_cell (j := 0) HZW.out rfl
  have fz := block_free (j := 0) HZW.out
  go_wp2_with fail
  have hu5 : Upd (fun b => b = w.heap.size + 2) (w1.alloc (.cells #[.slice sa l.length sc, .bool false] 145)) ((w1.alloc (.cells #[.slice sa l.length sc, .bool false] 145)).setCell ⟨w.heap.size + 2, 0, none⟩ (.slice none 0 0)) := (Upd.refl (fun b => b = w.heap.size + 2) (w1.alloc (.cells #[.slice sa l.length sc, .bool false] 145))).setCell (p := ⟨w.heap.size + 2, 0, none⟩) (fun _ => rfl) _
  have hk5 : ((w1.alloc (.cells #[.slice sa l.length sc, .bool false] 145)).setCell ⟨w.heap.size + 2, 0, none⟩ (.slice none 0 0)).heap[w.heap.size + 2]? = some (.cells #[.slice none 0 0] 66 (0, 0)) := block_setCell (j := 0) HZW.out (.slice none 0 0)
  have hB5 := HBW.out.trans (hu5.below (B := w.heap.size) HBW.out.size (fun b hb => by have e2 : b = w.heap.size + 2 := hb; omega))
  generalize (w1.alloc (.cells #[.slice sa l.length sc, .bool false] 145)).setCell ⟨w.heap.size + 2, 0, none⟩ (.slice none 0 0) = x5 at *
  have k0 := block_cell (j := 0) hk5 rfl
  refine bodyPost_ret (v := .tuple #[.agg #[.slice none 0 0], .bool false, .int .i64 ce]) (by simp [results, Tryz.results37, go_sem]; simp [k0] <;> rfl) rfl ?_
  refine ⟨_, by rw [HD2.out, HE2.out] <;> rfl, by rw [HL2.out]; exact ⟨fun _ => False, OwnC.nil _ _ _ (fun _ h => h.elim), fun _ h => h.elim⟩, hB5⟩
 case pos =>
  have Hc := Lib.hid (clu_right.1 hz)
  have hl3 := Hc.out.len
  rw [if_neg (by simpa using hz)] at HE
  rw [hz] at HCk
  have H3 := H.out
  rw [hl3] at H3
  have H3 := Lib.hid H3
  have Hl3 := Lib.hid hl3
  clear hz hl3
  obtain ⟨E, hE⟩ : ∃ E, E = actE l a := ⟨_, rfl⟩
  rw [← hE] at HE
  have HEe := Lib.hid hE
  clear hE
  go_enter Tryz.func37, Tryz.ntmps37
  go_wp2_with fail
  refine (HCk.out _ hR1).mono ?_
  rintro e w1 ⟨rfl, hb1⟩
  have hR2 := hRn _ _ hR1 hb1
  clear cc hb1
  have cc := c0 _ hR2
  have HKn := Lib.hid (heap_alloc_new w1 (.cells #[.slice sa l.length sc, .bool false] 145))
  have hR3 := hR.alloc _ (.cells #[.slice sa l.length sc, .bool false] 145) hR2
  have hK1 := HSz.out _ hR2
  rw [Hl3.out] at HKn
  have HDo := Lib.hid (clerkDo_any w1.heap.size sa sc l a _ _ S S1 (w1.alloc (.cells #[.slice sa 3 sc, .bool false] 145)) HKn.out (H3.out.below (by have := hRb _ hR3; rw [Hl3.out] at this; exact this)) Hc.out (HA.out.below (by have := hRb _ hR3; rw [Hl3.out] at this; exact this)) (HTw.out.below (by have := hRb _ hR3; rw [Hl3.out] at this; exact this)))
  simp only [actV] at HDo
  rw [← HEe.out] at HDo
  have b0 := a0 _ hR3
  have b1 := a1 _ hR3
  have b2 := a2 _ hR3
  have b3 := a3 _ hR3
  have b4 := a4 _ hR3
  have b5 := a5 _ hR3
  have b6 := a6 _ hR3
  rw [← Hl3.out] at HDo
  go_wp2_with fail
  refine HDo.out.mono ?_
  rintro e w3 ⟨rfl, hdn⟩
  have Hdn := Lib.hid hdn
  clear hdn HDo b0 b1 b2 b3 b4 b5 b6 cc
  by_cases hE0 : E = 0
  case neg =>
   have hb3 := Hdn.out.1 hE0
   have hR4 := hRn _ _ hR3 hb3
   have HE2 := HE
   have HL2 := Lib.hid (show doL l a = [] by rw [HL.out, HE2.out, if_neg hE0])
   have HD2 := Lib.hid (show doD l a = false by rw [HD.out, HE2.out, if_neg hE0])
   have q2 : (E != 0) = true := by simpa using hE0
   clear hb3 hE0 HE HL HD Hdn
   have HZW := Lib.hid (HZ.out _ hR4)
   have HBW := Lib.hid (hRb _ hR4)
   have gz := block_cell (j := 0) HZW.out rfl
   have fz := block_free (j := 0) HZW.out
   go_wp2_with fail
   have hu5 : Upd (fun b => b = w.heap.size + 2) w3 (w3.setCell ⟨w.heap.size + 2, 0, none⟩ (.slice none 0 0)) := (Upd.refl (fun b => b = w.heap.size + 2) w3).setCell (p := ⟨w.heap.size + 2, 0, none⟩) (fun _ => rfl) _
   have hk5 : (w3.setCell ⟨w.heap.size + 2, 0, none⟩ (.slice none 0 0)).heap[w.heap.size + 2]? = some (.cells #[.slice none 0 0] 66 (0, 0)) := block_setCell (j := 0) HZW.out (.slice none 0 0)
   have hB5 := HBW.out.trans (hu5.below (B := w.heap.size) HBW.out.size (fun b hb => by have e2 : b = w.heap.size + 2 := hb; omega))
   generalize w3.setCell ⟨w.heap.size + 2, 0, none⟩ (.slice none 0 0) = x5 at *
   have k0 := block_cell (j := 0) hk5 rfl
   refine bodyPost_ret (v := .tuple #[.agg #[.slice none 0 0], .bool false, .int .i64 E]) (by simp [results, Tryz.results37, go_sem]; simp [k0] <;> rfl) rfl ?_
   refine ⟨_, by rw [HD2.out, HE2.out] <;> rfl, by rw [HL2.out]; exact ⟨fun _ => False, OwnC.nil _ _ _ (fun _ h => h.elim), fun _ h => h.elim⟩, hB5⟩
  case pos =>
   obtain ⟨hu3, v3, hk3, ho3⟩ := Hdn.out.2 hE0
   subst hE0
   clear Hdn
   obtain ⟨a3, c3, rfl⟩ := ho3.shape
   have HE2 := HE
   have HL2 := Lib.hid (show doL l a = actL l a by rw [HL.out, if_pos HE2.out])
   have HD2 := Lib.hid (show doD l a = actD l a by rw [HD.out, if_pos HE2.out])
   clear HE HL HD
   generalize actD l a = ad at *
   have HZW := Lib.hid (hu3.blk (HZ.out _ hR3) (fun e => by have e2 : w.heap.size + 2 = w1.heap.size := e; omega))
   have HBW := Lib.hid ((hRb _ hR3).trans (hu3.below (B := w.heap.size) (hRb _ hR3).size (fun b hb => by have e2 : b = w1.heap.size := hb; omega)))
   have HK3 := Lib.hid hk3
   have HO3 := Lib.hid ho3
   have hKz : (w1.alloc (.cells #[.slice sa l.length sc, .bool false] 145)).heap.size = w1.heap.size + 1 := by simp
   have HKz := Lib.hid hKz
   clear hu3 hk3 ho3 hKz
   rw [HKz.out] at HO3
   generalize w1.heap.size = K at *
   go_upto_region 7 with fail
   refine wp_region_held (S := In (fun x : World => x.cell? ⟨K, 0, none⟩ = some (.slice a3 (actL l a).length c3) ∧ x.cell? ⟨K, 1, none⟩ = some (.bool ad))) (by kernel_rfl) ?_
   change wpAnyH _ _ _ _ _ _ _ _ (World.drew _)
   have HZ0 := Lib.hid (show w3.drew.heap[w.heap.size + 2]? = _ from HZW.out)
   have HBx := Lib.hid (HBW.out.trans (Below.refl _ _).drew)
   have HOx := Lib.hid (HO3.out.below (Below.refl _ _).drew)
   have hC0 : In (fun x : World => x.cell? ⟨K, 0, none⟩ = some (.slice a3 (actL l a).length c3) ∧ x.cell? ⟨K, 1, none⟩ = some (.bool ad)) w3.drew := show (fun x : World => x.cell? ⟨K, 0, none⟩ = some (.slice a3 (actL l a).length c3) ∧ x.cell? ⟨K, 1, none⟩ = some (.bool ad)) w3.drew from ⟨block_cell (j := 0) HK3.out rfl, block_cell (j := 1) HK3.out rfl⟩
   clear HZW HBW HO3 HK3
   generalize w3.drew = y0 at *
   refine wpAnyH_take (i := 0) (v := .pointer (some ⟨K, 0, none⟩)) rfl (by kernel_rfl) (by kernel_rfl) (by kernel_rfl) (fun _ _ _ h => h) (Or.inl ⟨by rfl, fun w hSw => ?_⟩) hC0 ?_
   ·go_simp
   simp only [Act.put, List.getElem_toArray, List.getElem_cons_zero, List.getElem_cons_succ, List.setIfInBounds_toArray, List.set_cons_zero, List.set_cons_succ]
   refine wpAnyH_take (i := 1) (v := .pointer (some ⟨K, 0, none⟩)) rfl (by kernel_rfl) (by kernel_rfl) (by kernel_rfl) (fun _ _ _ h => h) (Or.inl ⟨by rfl, fun w hSw => ?_⟩) hC0 ?_
   ·go_simp
   simp only [Act.put, List.getElem_toArray, List.getElem_cons_zero, List.getElem_cons_succ, List.setIfInBounds_toArray, List.set_cons_zero, List.set_cons_succ]
   refine wpAnyH_take (i := 2) (v := .pointer (some ⟨K, 0, none⟩)) rfl (by kernel_rfl) (by kernel_rfl) (by kernel_rfl) (fun _ _ _ h => h) (Or.inl ⟨by rfl, fun w hSw => ?_⟩) hC0 ?_
   ·go_simp
   simp only [Act.put, List.getElem_toArray, List.getElem_cons_zero, List.getElem_cons_succ, List.setIfInBounds_toArray, List.set_cons_zero, List.set_cons_succ]
   refine wpAnyH_take (i := 3) (v := .agg #[.slice a3 (actL l a).length c3]) rfl (by kernel_rfl) (by kernel_rfl) (by kernel_rfl) (fun _ _ _ h => h) (Or.inl ⟨by rfl, fun w hSw => ?_⟩) hC0 ?_
   ·have yq : _ ∧ _ := hSw; have yy := yq.1; go_simp
   simp only [Act.put, List.getElem_toArray, List.getElem_cons_zero, List.getElem_cons_succ, List.setIfInBounds_toArray, List.set_cons_zero, List.set_cons_succ]
   refine wpAnyH_take (i := 4) (v := .pointer (some ⟨K, 0, none⟩)) rfl (by kernel_rfl) (by kernel_rfl) (by kernel_rfl) (fun _ _ _ h => h) (Or.inl ⟨by rfl, fun w hSw => ?_⟩) hC0 ?_
   ·go_simp
   simp only [Act.put, List.getElem_toArray, List.getElem_cons_zero, List.getElem_cons_succ, List.setIfInBounds_toArray, List.set_cons_zero, List.set_cons_succ]
   refine wpAnyH_take (i := 5) (v := .pointer (some ⟨K, 0, none⟩)) rfl (by kernel_rfl) (by kernel_rfl) (by kernel_rfl) (fun _ _ _ h => h) (Or.inl ⟨by rfl, fun w hSw => ?_⟩) hC0 ?_
   ·go_simp
   simp only [Act.put, List.getElem_toArray, List.getElem_cons_zero, List.getElem_cons_succ, List.setIfInBounds_toArray, List.set_cons_zero, List.set_cons_succ]
   refine wpAnyH_take (i := 6) (v := .pointer (some ⟨K, 1, none⟩)) rfl (by kernel_rfl) (by kernel_rfl) (by kernel_rfl) (fun _ _ _ h => h) (Or.inl ⟨by rfl, fun w hSw => ?_⟩) hC0 ?_
   ·go_simp
   simp only [Act.put, List.getElem_toArray, List.getElem_cons_zero, List.getElem_cons_succ, List.setIfInBounds_toArray, List.set_cons_zero, List.set_cons_succ]
   refine wpAnyH_take (i := 7) (v := .bool ad) rfl (by kernel_rfl) (by kernel_rfl) (by kernel_rfl) (fun _ _ _ h => h) (Or.inl ⟨by rfl, fun w hSw => ?_⟩) hC0 ?_
   ·have yq : _ ∧ _ := hSw; have yy := yq.2; go_simp
   simp only [Act.put, List.getElem_toArray, List.getElem_cons_zero, List.getElem_cons_succ, List.setIfInBounds_toArray, List.set_cons_zero, List.set_cons_succ]
   refine wpAnyH_all (rs := [8]) (by kernel_rfl) (by simp) (fun j hj => ?_)
   obtain rfl : j = 8 := by simpa using hj
   refine Or.inl ?_
   have HZW := HZ0
   have HBW := HBx
   have gz := block_cell (j := 0) HZW.out rfl
   have fz := block_free (j := 0) HZW.out
   have hu5 : Upd (fun b => b = w.heap.size + 2) y0 (y0.setCell ⟨w.heap.size + 2, 0, none⟩ (.slice a3 (actL l a).length c3)) := (Upd.refl (fun b => b = w.heap.size + 2) y0).setCell (p := ⟨w.heap.size + 2, 0, none⟩) (fun _ => rfl) _
   have hk5 : (y0.setCell ⟨w.heap.size + 2, 0, none⟩ (.slice a3 (actL l a).length c3)).heap[w.heap.size + 2]? = some (.cells #[.slice a3 (actL l a).length c3] 66 (0, 0)) := block_setCell (j := 0) HZW.out (.slice a3 (actL l a).length c3)
   have hB5 := HBW.out.trans (hu5.below (B := w.heap.size) HBW.out.size (fun b hb => by have e2 : b = w.heap.size + 2 := hb; omega))
   have hq := (show _ ∧ _ from hC0)
   have hC1 : In (fun x : World => x.cell? ⟨K, 0, none⟩ = some (.slice a3 (actL l a).length c3) ∧ x.cell? ⟨K, 1, none⟩ = some (.bool ad)) (y0.setCell ⟨w.heap.size + 2, 0, none⟩ (.slice a3 (actL l a).length c3)) := show (fun x : World => x.cell? ⟨K, 0, none⟩ = some (.slice a3 (actL l a).length c3) ∧ x.cell? ⟨K, 1, none⟩ = some (.bool ad)) (y0.setCell ⟨w.heap.size + 2, 0, none⟩ (.slice a3 (actL l a).length c3)) from ⟨hu5.cell hq.1 (fun e => by have e2 : K = w.heap.size + 2 := e; omega), hu5.cell hq.2 (fun e => by have e2 : K = w.heap.size + 2 := e; omega)⟩
   clear hq
   have Ho5 := Lib.hid ((HOx.out.upd hu5 (fun b hb _ e => by have e2 : b = w.heap.size + 2 := e; omega)).mono (B' := w.heap.size) (by omega))
   have Hk5 := Lib.hid hk5
   have HB5 := Lib.hid hB5
   clear hu5 hk5 hB5
   go_wp2_with fail
   first | refine ⟨hC1, ?_⟩ | skip
   change wpAnyH _ _ _ _ _ _ _ _ (y0.setCell ⟨w.heap.size + 2, 0, none⟩ (.slice a3 (actL l a).length c3))
   clear gz fz HZ0
   generalize y0.setCell ⟨w.heap.size + 2, 0, none⟩ (.slice a3 (actL l a).length c3) = x5 at *
   refine wpAnyH_take (i := 9) (v := .bool ad) rfl (by kernel_rfl) (by kernel_rfl) (by kernel_rfl) (fun _ _ _ h => h) (Or.inl ⟨by rfl, fun w hSw => ?_⟩) hC1 ?_
   ·go_simp
   simp only [Act.put, List.getElem_toArray, List.getElem_cons_zero, List.getElem_cons_succ, List.setIfInBounds_toArray, List.set_cons_zero, List.set_cons_succ]
   refine wpAnyH_take (i := 10) (v := .int .i64 0) rfl (by kernel_rfl) (by kernel_rfl) (by kernel_rfl) (fun _ _ _ h => h) (Or.inl ⟨by rfl, fun w hSw => ?_⟩) hC1 ?_
   ·go_simp
   simp only [Act.put, List.getElem_toArray, List.getElem_cons_zero, List.getElem_cons_succ, List.setIfInBounds_toArray, List.set_cons_zero, List.set_cons_succ]
   refine wpAnyH_done (by kernel_rfl) ?_ _
   have k0 := block_cell (j := 0) Hk5.out rfl
   go_wp2_with fail
   refine bodyPost_ret (v := .tuple #[.agg #[.slice a3 (actL l a).length c3], .bool ad, .int .i64 0]) (by simp [results, Tryz.results37, go_sem]; simp [k0] <;> rfl) rfl ?_
   refine ⟨_, by rw [HD2.out, HE2.out] <;> rfl, by rw [HL2.out]; exact Ho5.out, HB5.out⟩
end Go.Proofs.YtjdgpgfiomnjkaaGreatDoor
namespace Go.Proofs.YtjdgpgfiomnjkaaGreatDoor
open Go.RowKit
set_option linter.unusedVariables false
set_option linter.unusedSimpArgs false
set_option maxRecDepth 100000 in
set_option maxHeartbeats 4000000 in
theorem cluNew_new (w : World) :
  Calls Tryz.prog 47 #[] w fun e w' => ∃ v, e = .returned (.agg #[v]) ∧ RepsV (fun b => w.heap.size ≤ b) w' v [rep0, rep0, rep0] ∧ Below w.heap.size w w' := by
 have hmk : ∀ w, (Instr.makeSlice 64 (.int .i64 3) (.int .i64 3)).run Tryz.prog w = .ok (.slice (some ⟨w.heap.size, 0, none⟩) 3 3) (w.alloc (.cells #[.slice none 0 0, .slice none 0 0, .int .i64 0, .int .i64 0, .slice none 0 0, .slice none 0 0, .bool false, .slice none 0 0, .slice none 0 0, .int .i64 0, .int .i64 0, .slice none 0 0, .slice none 0 0, .bool false, .slice none 0 0, .slice none 0 0, .int .i64 0, .int .i64 0, .slice none 0 0, .slice none 0 0, .bool false] 28)) := fun _ => by kernel_rfl
 have hz0 := heap_alloc_new (w.alloc (.cells #[.slice (some ⟨w.heap.size + 1, 0, none⟩) 3 3] 66)) (.cells #[.slice none 0 0, .slice none 0 0, .int .i64 0, .int .i64 0, .slice none 0 0, .slice none 0 0, .bool false, .slice none 0 0, .slice none 0 0, .int .i64 0, .int .i64 0, .slice none 0 0, .slice none 0 0, .bool false, .slice none 0 0, .slice none 0 0, .int .i64 0, .int .i64 0, .slice none 0 0, .slice none 0 0, .bool false] 28)
 have hc0 := (((Below.refl _ _).alloc (Nat.le_refl _) (.cells #[.slice none 0 0, .slice none 0 0, .int .i64 0, .int .i64 0, .slice none 0 0, .slice none 0 0, .bool false, .slice none 0 0, .slice none 0 0, .int .i64 0, .int .i64 0, .slice none 0 0, .slice none 0 0, .bool false, .slice none 0 0, .slice none 0 0, .int .i64 0, .int .i64 0, .slice none 0 0, .slice none 0 0, .bool false] 28)).block _ (by simp)).trans (heap_alloc_new w (.cells #[.slice (some ⟨w.heap.size + 1, 0, none⟩) 3 3] 66))
 have hs0 : (w.alloc (.cells #[.slice (some ⟨w.heap.size + 1, 0, none⟩) 3 3] 66)).heap.size = w.heap.size + 1 := by simp
 rw [hs0] at hz0
 have hb0 := ((Below.refl w.heap.size w).alloc (Nat.le_refl _) (.cells #[.slice (some ⟨w.heap.size + 1, 0, none⟩) 3 3] 66)).alloc (by simp) (.cells #[.slice none 0 0, .slice none 0 0, .int .i64 0, .int .i64 0, .slice none 0 0, .slice none 0 0, .bool false, .slice none 0 0, .slice none 0 0, .int .i64 0, .int .i64 0, .slice none 0 0, .slice none 0 0, .bool false, .slice none 0 0, .slice none 0 0, .int .i64 0, .int .i64 0, .slice none 0 0, .slice none 0 0, .bool false] 28)
 have HZ := Lib.hid hz0
 have HC := Lib.hid hc0
 have HB := Lib.hid hb0
 clear hz0 hc0 hb0 hs0
 go_enter Tryz.func47, Tryz.ntmps47
 go_wp2_with fail
 generalize ((w.alloc (.cells #[.slice (some ⟨w.heap.size + 1, 0, none⟩) 3 3] 66)).alloc (.cells #[.slice none 0 0, .slice none 0 0, .int .i64 0, .int .i64 0, .slice none 0 0, .slice none 0 0, .bool false, .slice none 0 0, .slice none 0 0, .int .i64 0, .int .i64 0, .slice none 0 0, .slice none 0 0, .bool false, .slice none 0 0, .slice none 0 0, .int .i64 0, .int .i64 0, .slice none 0 0, .slice none 0 0, .bool false] 28)) = x at *
 have k0 := block_cell (j := 0) HC.out rfl
 have hz : ∀ i, i < 3 → rep [rep0, rep0, rep0] i = rep0 := fun i hi => by
  have : i = 0 ∨ i = 1 ∨ i = 2 := by omega
  rcases this with rfl | rfl | rfl <;> rfl
 refine bodyPost_ret (v := .agg #[.slice (some ⟨w.heap.size + 1, 0, none⟩) 3 3]) (by simp [results, Tryz.results47, go_sem]; simp [k0] <;> rfl) rfl ?_
 refine ⟨_, rfl, ⟨fun _ => ⟨.slice none 0 0, .slice none 0 0, .slice none 0 0, .slice none 0 0⟩, ⟨_, 3, rfl, by decide, by decide, by decide, fun _ => ⟨_, 0, rfl, by omega, fun i hi j u hu => ?_⟩⟩, fun i hi => ?_⟩, HB.out⟩
 ·replace hu : (repC (rep [rep0, rep0, rep0] i) ⟨.slice none 0 0, .slice none 0 0, .slice none 0 0, .slice none 0 0⟩)[j]? = some u := hu
  rw [hz i hi] at hu
  have hj : j < 7 := by
   rcases Nat.lt_or_ge j 7 with h | h
   ·exact h
   ·rw [List.getElem?_eq_none (by simpa [repC] using h)] at hu; cases hu
  have h1 : i = 0 ∨ i = 1 ∨ i = 2 := by have : i < 3 := hi; omega
  have h2 : j = 0 ∨ j = 1 ∨ j = 2 ∨ j = 3 ∨ j = 4 ∨ j = 5 ∨ j = 6 := by omega
  rcases h1 with rfl | rfl | rfl <;> rcases h2 with rfl | rfl | rfl | rfl | rfl | rfl | rfl <;> (cases hu; exact block_cell HZ.out rfl)
 ·rw [hz i hi]; exact rep0_is _ _
theorem DoneK.step {K : Nat} {w w' : World} {l : List Rep} {a : Ac} {v : Value} {S : Nat → Prop} (hd : DoneK K w w' (actE l a) (actL l a) (actD l a)) (hK : w.heap[K]? = some (.cells #[v, .bool false] 145 (0, 0))) (h : RepsV S w v l) (hc : RightC l) :
  ∃ v', w'.heap[K]? = some (.cells #[v', .bool (toldB l a)] 145 (0, 0)) ∧ Upd (fun b => b = K) w w' ∧ RepsV (fun b => S b ∨ w.heap.size ≤ b) w' v' (stepL l a) := by
 by_cases he : actE l a = 0
 ·obtain ⟨hu, v', h1, F, hO, hF⟩ := hd.2 he
  have e1 : toldB l a = actD l a := by unfold toldB; rw [if_pos he]
  have e2 : stepL l a = actL l a := by unfold stepL; rw [if_pos he]
  rw [e1, e2]
  exact ⟨v', h1, hu, hO.reps (by rw [(act_right hc he).len]; omega) (fun b hb => .inr (hF b hb)) (fun b hb => .inr (hO.block hb).1)⟩
 ·have hb := hd.1 he
  have e1 : toldB l a = false := by unfold toldB; rw [if_neg he]
  have e2 : stepL l a = l := by unfold stepL; rw [if_neg he]
  rw [e1, e2]
  have hu := upd_none hb
  exact ⟨v, (hb.block _ (lt_of_block hK)).trans hK, ⟨hu.os, hu.tape, hu.output, hu.size, fun b hb _ => hu.block b hb id⟩, (h.below hb).weaken fun b hb => .inl hb⟩
structure RunAt (B D : Nat) (w : World) (s : List Ac) (k : Nat) (tv dv : Value) : Prop where
 box : ∃ v, w.heap[D]? = some (.cells #[v] 66 (0, 0)) ∧ RepsV (fun b => B ≤ b ∧ b ≠ D ∧ tv.ownBlock ≠ some b ∧ dv.ownBlock ≠ some b) w v (runL s k)
 told : w.ownsRow B 4 1 tv k ((runD s k).map .bool)
 done : w.ownsRow B 33 1 dv k ((runE s k).map (.int .i64))
 apart : ∀ g, tv.ownBlock = some g → dv.ownBlock ≠ some g
theorem RunAt.below {B D : Nat} {w w' : World} {s : List Ac} {k : Nat} {tv dv : Value} (h : RunAt B D w s k tv dv) (hb : Below w.heap.size w w') : RunAt B D w' s k tv dv := by
 obtain ⟨⟨v, h1, h2⟩, h3, h4, h5⟩ := h
 exact ⟨⟨v, blk_below h1 hb, h2.below hb⟩, own_below h3 hb, own_below h4 hb, h5⟩
theorem RunAt.next {B D : Nat} {w3 w4 w5 w6 : World} {s : List Ac} {k : Nat} {tv dv tv' dv' v' : Value} (h : RunAt B D w3 s k tv dv)
  (hv : RepsV (fun b => (B ≤ b ∧ b ≠ D ∧ tv.ownBlock ≠ some b ∧ dv.ownBlock ≠ some b) ∧ b < w3.heap.size) w3 v' (runL s (k + 1)))
  (h4 : Upd (fun b => b = D) w3 w4) (hD : w4.heap[D]? = some (.cells #[v'] 66 (0, 0)))
  (h5 : Upd (fun b => tv.ownBlock = some b) w4 w5) (ht : w5.ownsRow B 4 1 tv' (k + 1) ((runD s (k + 1)).map .bool)) (hta : tv'.ownBlock = tv.ownBlock ∨ tv'.ownBlock = some (w4.heap.size + 1))
  (h6 : Upd (fun b => dv.ownBlock = some b) w5 w6) (hd : w6.ownsRow B 33 1 dv' (k + 1) ((runE s (k + 1)).map (.int .i64))) (hda : dv'.ownBlock = dv.ownBlock ∨ dv'.ownBlock = some (w5.heap.size + 1)) :
  RunAt B D w6 s (k + 1) tv' dv' := by
 obtain ⟨⟨v, b1, b2⟩, ht0, hd0, hap⟩ := h
 have z4 := h4.size
 have z5 := h5.size
 have z6 := h6.size
 have hDl : D < w3.heap.size := lt_of_block b1
 have ntD : tv.ownBlock ≠ some D := own_ne ht0 b1 (by decide)
 have ndD : dv.ownBlock ≠ some D := own_ne hd0 b1 (by decide)
 have tlt : ∀ g, tv'.ownBlock = some g → g < w5.heap.size := fun g hg => (ht.lt g hg).2
 have told : ∀ g, tv.ownBlock = some g → g < w3.heap.size := fun g hg => (ht0.lt g hg).2
 have dlt : ∀ g, dv.ownBlock = some g → g < w3.heap.size := fun g hg => (hd0.lt g hg).2
 have hap1 : ∀ g, tv'.ownBlock = some g → dv.ownBlock ≠ some g := fun g hg e => by
  rcases hta with h | h
  ·exact hap g (h ▸ hg) e
  ·have e1 : w4.heap.size + 1 = g := by rw [h] at hg; exact Option.some.inj hg
   have := dlt g e; omega
 refine ⟨⟨v', h6.blk (h5.blk hD ntD) ndD, ?_⟩, own_upd ht h6 hap1, hd, fun g hg e => ?_⟩
 ·refine (((hv.upd h4 (fun b hb e => hb.1.2.1 e)).upd h5 (fun b hb e => hb.1.2.2.1 e)).upd h6 (fun b hb e => hb.1.2.2.2 e)).weaken fun b hb => ⟨hb.1.1, hb.1.2.1, fun e => ?_, fun e => ?_⟩
  ·rcases hta with h | h
   ·exact hb.1.2.2.1 (h ▸ e)
   ·have e1 : w4.heap.size + 1 = b := by rw [h] at e; exact Option.some.inj e
    have := hb.2; omega
  ·rcases hda with h | h
   ·exact hb.1.2.2.2 (h ▸ e)
   ·have e1 : w5.heap.size + 1 = b := by rw [h] at e; exact Option.some.inj e
    have := hb.2; omega
 ·rcases hda with h | h
  ·exact hap1 g hg (h ▸ e)
  ·have e1 : w5.heap.size + 1 = g := by rw [h] at e; exact Option.some.inj e
   have := tlt g hg; omega
end Go.Proofs.YtjdgpgfiomnjkaaGreatDoor
namespace Go.Proofs.YtjdgpgfiomnjkaaGreatDoor
open Go.RowKit
set_option linter.unusedVariables false
set_option linter.unusedSimpArgs false
def runN (s : List Ac) : Nat := if s.length ≤ 12 then s.length else 0
def runC (s : List Ac) : List Rep := if s.length ≤ 12 then runL s s.length else []
def runW (s : List Ac) : Int := if s.length ≤ 12 then 0 else 2
structure RunV (B : Nat) (w : World) (s : List Ac) (v tv dv : Value) : Prop where
 clu : RepsV (fun b => B ≤ b) w v (runC s)
 told : w.ownsRow B 4 1 tv (runN s) ((runD s (runN s)).map .bool)
 done : w.ownsRow B 33 1 dv (runN s) ((runE s (runN s)).map (.int .i64))
set_option maxRecDepth 100000 in
set_option maxHeartbeats 16000000 in
theorem deskRun_any (s : List Ac) (sv : Value) (S : Nat → Prop) (w : World) (h : ActsV S w sv s) (ht : Tab w) :
  Calls Tryz.prog 44 #[sv] w fun e w' => ∃ v tv dv, e = .returned (.tuple #[.agg #[v], tv, dv, .int .i64 (runW s)]) ∧ RunV w.heap.size w' s v tv dv ∧ Below w.heap.size w w' := by
 obtain ⟨a, n, cap, fr, HN, rfl, _, _, h3, h4, h5⟩ := h.open
 have HTw := Lib.hid ht
 have H4 := Lib.hid h4
 have H5 := Lib.hid h5
 clear h h4 h5 ht
 obtain ⟨R, hR, hR1, HB0⟩ := cls_allocs w [.cells #[.slice none 0 0] 66]
 simp only [List.foldl] at hR1
 have hRb := hR.below
 have hRn := hR.next
 have HZ := Lib.hid (fun x (hx : In R x) => show x.heap[w.heap.size]? = some (.cells #[.slice none 0 0] 66 (0, 0)) from HB0 x hx 0 _ rfl)
 clear HB0
 have HN2 := Lib.hid (show runN s = if n ≤ 12 then n else 0 by rw [HN.out]; rfl)
 have HC2 := Lib.hid (show runC s = if n ≤ 12 then runL s n else [] by rw [HN.out]; rfl)
 have HW2 := Lib.hid (show runW s = if n ≤ 12 then 0 else 2 by rw [HN.out]; rfl)
 have hsz5 : (w.alloc (.cells #[.slice none 0 0] 66)).heap.size = w.heap.size + 1 := by simp
 by_cases hn : n ≤ 12
 case neg =>
  rw [if_neg hn] at HN2 HC2 HW2
  have q1 : (12 : Int) < (n : Int) := by omega
  have HZW := Lib.hid (HZ.out _ hR1)
  have HBW := Lib.hid (hRb _ hR1)
  have gz := block_cell (j := 0) HZW.out rfl
  have fz := block_free (j := 0) HZW.out
  go_enter Tryz.func44, Tryz.ntmps44
  go_wp2_with fail
  refine bodyPost_ret (v := .tuple #[.agg #[.slice none 0 0], .slice none 0 0, .slice none 0 0, .int .i64 2]) (by simp [results, Tryz.results44, go_sem] <;> rfl) rfl ?_
  refine ⟨_, _, _, by rw [HW2.out], ⟨by rw [HC2.out]; exact RepsV.nil _ _ _ _ (by omega), by rw [HN2.out]; exact World.ownsRow_nil _ _ _ _, by rw [HN2.out]; exact World.ownsRow_nil _ _ _ _⟩, HBW.out⟩
 case pos =>
  rw [if_pos hn] at HN2 HC2 HW2
  have q1 : ¬ (12 : Int) < (n : Int) := by omega
  obtain ⟨x5, hx5⟩ : ∃ x5, x5 = (w.alloc (.cells #[.slice none 0 0] 66)) := ⟨_, rfl⟩
  rw [← hx5] at hR1 hsz5
  have Hx5 := Lib.hid hx5
  clear hx5
  obtain ⟨Q, hQ, hQ1, hQu⟩ := cls_newer x5
  have hQb := hQ.below
  have hQn := hQ.next
  have HQu := Lib.hid hQu
  clear hQu
  have HQR := Lib.hid (fun x (hx : In Q x) => hRn _ _ hR1 (hQb _ hx))
  have Hs5 := Lib.hid hsz5
  clear hsz5
  go_enter Tryz.func44, Tryz.ntmps44
  go_upto_region 3 with fail
  rw [← Hx5.out]
  go_wp2_with fail
  refine (cluNew_new _).mono ?_
  rintro e z1 ⟨v1, rfl, hv, hb1⟩
  obtain ⟨a1, c1, rfl⟩ := hv.vshape
  replace hv : RepsV (fun b => x5.heap.size ≤ b) z1 (.slice a1 3 c1) new3 := hv
  have hC1 := hQn _ _ hQ1 hb1
  have hz1 := (hQb _ hC1).size
  have hbA : Below z1.heap.size z1 (z1.alloc (.cells #[.slice a1 3 c1] 66)) := (Below.refl _ _).alloc (Nat.le_refl _) _
  have hQ9 := hQn _ _ hC1 hbA
  have hb9 := heap_alloc_new z1 (.cells #[.slice a1 3 c1] 66)
  have hv9 := (hv.low.below hbA).weaken (S' := fun b => x5.heap.size ≤ b ∧ b ≠ z1.heap.size) fun b hb => ⟨hb.1, by omega⟩
  have hD9 := hz1
  have Hb9 := Lib.hid hb9
  have Hv9 := Lib.hid hv9
  clear hb9 hv9 hv hb1 hbA hz1 hC1
  obtain ⟨y9, hy9⟩ : ∃ y9, y9 = (z1.alloc (.cells #[.slice a1 3 c1] 66)) := ⟨_, rfl⟩
  have Hy9 := Lib.hid hy9
  rw [← hy9] at Hb9 Hv9 hQ9
  obtain ⟨D, hD⟩ : ∃ D, D = z1.heap.size := ⟨_, rfl⟩
  have HDz := Lib.hid hD
  rw [← hD] at Hb9 Hv9 hD9
  clear hD hy9
  go_upto_region 7 with fail
  rw [← Hy9.out]
  rw [← HDz.out]
  clear Hy9 HDz
  have HD9 := Lib.hid hD9
  have HA0 : RunAt x5.heap.size D y9 s 0 (.slice none 0 0) (.slice none 0 0) := ⟨⟨_, Hb9.out, Hv9.out.weaken fun b hb => ⟨hb.1, hb.2, by simp [Value.ownBlock], by simp [Value.ownBlock]⟩⟩, World.ownsRow_nil _ _ _ _, World.ownsRow_nil _ _ _ _, fun g hg => by simp [Value.ownBlock] at hg⟩
  have HA0 := Lib.hid HA0
  clear Hb9 Hv9 hD9
  go_loopw [7, 8, 20] (fun s7 s8 i wr => ∃ (k : Nat) (t9 d9 : Value), k ≤ n ∧ i = .int .i64 k ∧ t9 = s7 ∧ d9 = s8 ∧ In Q wr ∧ Hid (RunAt x5.heap.size D wr s k t9 d9)) (fun _ _ i _ => n - (intOf i).toNat)
  case atStart => exact ⟨0, _, _, Nat.zero_le _, rfl, rfl, rfl, hQ9, HA0⟩
  case round =>
   obtain ⟨k, t9, d9, hk, rfl, rfl, rfl, hQr, HA⟩ := hrel
   obtain ⟨wo, rfl⟩ : ∃ wo : World, wo = wr := ⟨_, rfl⟩
   clear HA0 hQ9
   by_cases hlt : k < n
   case neg =>
    obtain rfl : k = n := by omega
    obtain ⟨v2, hbx, hrv⟩ := HA.out.box
    obtain ⟨a2, c2, rfl⟩ := hrv.vshape
    have hl3 := (run_right s k).len
    rw [hl3] at hbx hrv
    have x0 := block_cell (j := 0) hbx rfl
    have HZW := Lib.hid (HZ.out _ (HQR.out _ hQr))
    have HBW := Lib.hid (hRb _ (HQR.out _ hQr))
    have gz := block_cell (j := 0) HZW.out rfl
    have fz := block_free (j := 0) HZW.out
    have Hrv := Lib.hid hrv
    clear hrv hbx
    go_wp2_with fail
    have hu5 : Upd (fun b => b = w.heap.size) wo (wo.setCell ⟨w.heap.size, 0, none⟩ (.slice a2 3 c2)) := (Upd.refl (fun b => b = w.heap.size) wo).setCell (p := ⟨w.heap.size, 0, none⟩) (fun _ => rfl) _
    have hk5 : (wo.setCell ⟨w.heap.size, 0, none⟩ (.slice a2 3 c2)).heap[w.heap.size]? = some (.cells #[.slice a2 3 c2] 66 (0, 0)) := block_setCell (j := 0) HZW.out (.slice a2 3 c2)
    have hB5 := HBW.out.trans (hu5.below (B := w.heap.size) HBW.out.size (fun b hb => by have e2 : b = w.heap.size := hb; omega))
    generalize wo.setCell ⟨w.heap.size, 0, none⟩ (.slice a2 3 c2) = y5 at *
    have k0 := block_cell (j := 0) hk5 rfl
    refine bodyPost_ret (v := .tuple #[.agg #[.slice a2 3 c2], t9, d9, .int .i64 0]) (by simp [results, Tryz.results44, go_sem]; simp [k0] <;> rfl) rfl ?_
    have hs5 := Hs5.out
    refine ⟨_, _, _, by rw [HW2.out], ⟨by rw [HC2.out]; exact (Hrv.out.upd hu5 (fun b hb e => by have e2 : b = w.heap.size := e; have := hb.1; omega)).weaken (fun b hb => by have := hb.1; omega), ?_, ?_⟩, hB5⟩
    ·rw [HN2.out]; exact own_mono (own_upd HA.out.told hu5 (fun g hg e => by have e2 : g = w.heap.size := e; have := (HA.out.told.lt g hg).1; omega)) (by omega)
    ·rw [HN2.out]; exact own_mono (own_upd HA.out.done hu5 (fun g hg e => by have e2 : g = w.heap.size := e; have := (HA.out.done.lt g hg).1; omega)) (by omega)
   case pos =>
    obtain ⟨b0, off0, rfl, _, k0, k1, k2, k3, k4, k5, k6⟩ := H4.out (by omega)
    have e0 := k0 k wo hlt (hRb _ (HQR.out _ hQr))
    have e1 := k1 k wo hlt (hRb _ (HQR.out _ hQr))
    have e2 := k2 k wo hlt (hRb _ (HQR.out _ hQr))
    have e3 := k3 k wo hlt (hRb _ (HQR.out _ hQr))
    have e4 := k4 k wo hlt (hRb _ (HQR.out _ hQr))
    have e5 := k5 k wo hlt (hRb _ (HQR.out _ hQr))
    have e6 := k6 k wo hlt (hRb _ (HQR.out _ hQr))
    clear k0 k1 k2 k3 k4 k5 k6
    have hj1 : (0 : Int) ≤ (k : Int) := by omega
    have hj2 : (k : Int) < (n : Int) := by omega
    have HAc := Lib.hid ((H5.out k hlt).below (hRb _ (HQR.out _ hQr)))
    have hX := hQ.alloc _ (.cells #[.int .i64 (ac s k).kind, .int .i64 (ac s k).on, .int .i64 (ac s k).up, .int .i64 (ac s k).late, .slice (fr k).oa (ac s k).push.objects.length (fr k).oc, .slice (fr k).ua (ac s k).push.updates.length (fr k).uc, .bool (ac s k).push.force] 68) hQr
    have HU := Lib.hid (heap_alloc_new wo (.cells #[.int .i64 (ac s k).kind, .int .i64 (ac s k).on, .int .i64 (ac s k).up, .int .i64 (ac s k).late, .slice (fr k).oa (ac s k).push.objects.length (fr k).oc, .slice (fr k).ua (ac s k).push.updates.length (fr k).uc, .bool (ac s k).push.force] 68))
    have hbX : Below wo.heap.size wo (wo.alloc (.cells #[.int .i64 (ac s k).kind, .int .i64 (ac s k).on, .int .i64 (ac s k).up, .int .i64 (ac s k).late, .slice (fr k).oa (ac s k).push.objects.length (fr k).oc, .slice (fr k).ua (ac s k).push.updates.length (fr k).uc, .bool (ac s k).push.force] 68)) := (Below.refl _ _).alloc (Nat.le_refl _) _
    have HAu := Lib.hid (HA.out.below hbX)
    have HAcu := Lib.hid (HAc.out.below hbX)
    clear hbX HA HAc hQr
    go_upto_region 9 with fail
    generalize wo.alloc (.cells #[.int .i64 (ac s k).kind, .int .i64 (ac s k).on, .int .i64 (ac s k).up, .int .i64 (ac s k).late, .slice (fr k).oa (ac s k).push.objects.length (fr k).oc, .slice (fr k).ua (ac s k).push.updates.length (fr k).uc, .bool (ac s k).push.force] 68) = wu at *
    generalize wo.heap.size = U at *
    clear e0 e1 e2 e3 e4 e5 e6
    obtain ⟨v2, hbx, hrv⟩ := HAu.out.box
    obtain ⟨a2, c2, rfl⟩ := hrv.vshape
    have hl3 := (run_right s k).len
    rw [hl3] at hbx hrv
    have x0 := block_cell (j := 0) hbx rfl
    have HK0 := Lib.hid (heap_alloc_new wu (.cells #[.slice a2 3 c2, .bool false] 145))
    have hbK : Below wu.heap.size wu (wu.alloc (.cells #[.slice a2 3 c2, .bool false] 145)) := (Below.refl _ _).alloc (Nat.le_refl _) _
    have hQk := hQn _ _ hX hbK
    have HAck := Lib.hid (HAcu.out.below hbK)
    have Hrk := Lib.hid (hrv.below hbK)
    have HUk := Lib.hid (blk_below HU.out hbK)
    have Hbk := Lib.hid (blk_below hbx hbK)
    have hDl : D < wu.heap.size := lt_of_block hbx
    have hxu := (hQb _ hX).size
    have HDo := Lib.hid (clerkDo_any wu.heap.size a2 c2 (runL s k) (ac s k) _ _ _ _ (wu.alloc (.cells #[.slice a2 3 c2, .bool false] 145)) HK0.out Hrk.out (run_right s k) HAck.out (HTw.out.below (hRb _ (HQR.out _ hQk))))
    simp only [actV] at HDo
    have b0 := block_cell (j := 0) HUk.out rfl
    have b1 := block_cell (j := 1) HUk.out rfl
    have b2 := block_cell (j := 2) HUk.out rfl
    have b3 := block_cell (j := 3) HUk.out rfl
    have b4 := block_cell (j := 4) HUk.out rfl
    have b5 := block_cell (j := 5) HUk.out rfl
    have b6 := block_cell (j := 6) HUk.out rfl
    have Hrv := Lib.hid hrv
    clear hrv hbx HU
    go_wp2_with fail
    refine HDo.out.mono ?_
    rintro e w3 ⟨rfl, hdn⟩
    clear HDo x0 b0 b1 b2 b3 b4 b5 b6
    obtain ⟨v3, hk3, hu3, hv3⟩ := hdn.step HK0.out Hrk.out (run_right s k)
    obtain ⟨a3, c3, rfl⟩ := hv3.vshape
    have hl4 := (step_right (a := ac s k) (run_right s k)).len
    rw [hl4] at hk3 hv3
    have hkz : (wu.alloc (.cells #[.slice a2 3 c2, .bool false] 145)).heap.size = wu.heap.size + 1 := by simp
    have hB3 : Below wu.heap.size wu w3 := hbK.trans (hu3.below (B := wu.heap.size) (by omega) (fun b hb => by have e2 : b = wu.heap.size := hb; omega))
    have HA3 := Lib.hid (HAu.out.below hB3)
    have hbD3 := hu3.blk Hbk.out (fun e => by have e2 : D = wu.heap.size := e; omega)
    have hQ3 := HQu.out _ _ _ hQk hu3 (fun b hb => by have e2 : b = wu.heap.size := hb; omega)
    have HV3 := Lib.hid ((hv3.low).weaken (S' := fun b => (x5.heap.size ≤ b ∧ b ≠ D ∧ t9.ownBlock ≠ some b ∧ d9.ownBlock ≠ some b) ∧ b < w3.heap.size) fun b hb => ⟨hb.1.elim id (fun h => ⟨by omega, by omega, fun e => by have := (HAu.out.told.lt b e).2; omega, fun e => by have := (HAu.out.done.lt b e).2; omega⟩), hb.2⟩)
    have Hk3 := Lib.hid hk3
    have HD3 := Lib.hid hbD3
    have hKD : wu.heap.size ≠ D := by omega
    have hK3l : wu.heap.size < w3.heap.size := lt_of_block hk3
    clear hv3 hdn hu3 HK0 Hrk HAck HUk Hbk hbK hB3 hQk hX HAu HAcu Hrv hkz
    generalize wu.heap.size = K at *
    have x0 := block_cell (j := 0) Hk3.out rfl
    have gz := block_cell (j := 0) HD3.out rfl
    have fz := block_free (j := 0) HD3.out
    generalize htb : toldB (runL s k) (ac s k) = tb at *
    generalize hte : actE (runL s k) (ac s k) = te at *
    go_upto_region 12 with fail
    have hu4 : Upd (fun b => b = D) w3 (w3.setCell ⟨D, 0, none⟩ (.slice a3 3 c3)) := (Upd.refl (fun b => b = D) w3).setCell (p := ⟨D, 0, none⟩) (fun _ => rfl) _
    have hD4 : (w3.setCell ⟨D, 0, none⟩ (.slice a3 3 c3)).heap[D]? = some (.cells #[.slice a3 3 c3] 66 (0, 0)) := block_setCell (j := 0) HD3.out (.slice a3 3 c3)
    have x1 := hu4.cell (block_cell (j := 1) Hk3.out rfl) hKD
    have hQ4 := HQu.out _ _ _ hQ3 hu4 (fun b hb => by have e2 : b = D := hb; have := HD9.out; omega)
    have ntD : t9.ownBlock ≠ some D := own_ne HA3.out.told HD3.out (by decide)
    have ndD : d9.ownBlock ≠ some D := own_ne HA3.out.done HD3.out (by decide)
    have HT4 := Lib.hid (own_upd HA3.out.told hu4 (fun g hg e => ntD (by have e2 : g = D := e; rw [hg, e2])))
    have HO4 := Lib.hid (own_upd HA3.out.done hu4 (fun g hg e => ndD (by have e2 : g = D := e; rw [hg, e2])))
    have hB4 := (hQb _ hQ4).size
    have Hu4 := Lib.hid hu4
    have HD4 := Lib.hid hD4
    clear hu4 hD4 x0 gz fz ntD ndD hQ3
    generalize (w3.setCell ⟨D, 0, none⟩ (.slice a3 3 c3)) = w4 at *
    go_wp2_with (at_builtin; refine wpList_append_bool (z := tb) rfl _ _ rfl HT4.out (by omega) hB4 rfl rfl (by first | rfl | simp) ?_)
    intro tv w5 ht5 hu5 hta
    have HO5 := Lib.hid (own_upd HO4.out hu5 (fun g hg e => HA3.out.apart g e hg))
    have hQ5 := HQu.out _ _ _ hQ4 hu5 (fun b hb => (HT4.out.lt b hb).1)
    have hB5 := (hQb _ hQ5).size
    have Ht5 := Lib.hid ht5
    have Hu5 := Lib.hid hu5
    have Hta := Lib.hid hta
    clear ht5 hu5 hta x1
    go_wp2_with (at_builtin; refine wpList_append_err (z := te) rfl _ _ rfl HO5.out (by omega) hB5 rfl rfl (by first | rfl | simp) ?_)
    intro dv w6 hd6 hu6 hda
    have hQ6 := HQu.out _ _ _ hQ5 hu6 (fun b hb => (HO5.out.lt b hb).1)
    have HA6 := Lib.hid (show RunAt x5.heap.size D w6 s (k + 1) tv dv from HA3.out.next HV3.out Hu4.out HD4.out Hu5.out (by rw [show (runD s (k + 1)).map Value.bool = (runD s k).map Value.bool ++ [.bool tb] from by rw [← htb, runD, List.map_append]; rfl]; exact Ht5.out) Hta.out hu6 (by rw [show (runE s (k + 1)).map (Value.int .i64) = (runE s k).map (Value.int .i64) ++ [.int .i64 te] from by rw [← hte, runE, List.map_append]; rfl]; exact hd6) hda)
    go_wp2_with fail
    go_roundw
    case rel => exact ⟨k + 1, _, _, by omega, by go_num, rfl, rfl, hQ6, HA6⟩
    case measure => simp [intOf]; omega
end Go.Proofs.YtjdgpgfiomnjkaaGreatDoor
namespace Go.Proofs.YtjdgpgfiomnjkaaGreatDoor
open Go.RowKit
set_option linter.unusedVariables false
set_option linter.unusedSimpArgs false
theorem do_right {l : List Rep} {a : Ac} (hc : RightC l) : doE l a = actE l a ∧ doL l a = dofL l a ∧ doD l a = dofD l a := by
 have h := clu_right.2 hc
 have e : doE l a = actE l a := by unfold doE; rw [if_neg (by simpa using h)]
 exact ⟨e, by unfold doL dofL; rw [e], by unfold doD dofD; rw [e]⟩
theorem dof_told (l : List Rep) (a : Ac) : dofD l a = toldB l a := rfl
end Go.Proofs.YtjdgpgfiomnjkaaGreatDoor
