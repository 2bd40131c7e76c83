
/- Walks: refs moved: put, move. -/
import Derived.Test.YtjdgpgfiomnjkaaGreatDoorM7
import Derived.Test.YtjdgpgfiomnjkaaGreatDoorM8
import Derived.Laws.StructEq
import Derived.Laws.OwnMore
import Derived.Deep.DeepCutAuto
import Derived.RegionTactic
import Derived.ChangeAlike
import Derived.Test.YtjdgpgfiomnjkaaGreatDoorM0
import Derived.Test.YtjdgpgfiomnjkaaGreatDoorM3
namespace Go.Proofs.YtjdgpgfiomnjkaaGreatDoor
open Go.RowKit
set_option linter.unusedVariables false
set_option linter.unusedSimpArgs false
set_option maxRecDepth 100000 in
set_option maxHeartbeats 4000000 in
theorem putR_any {B J : Nat} {ov : Value} {force : Bool} {l : List Rf} {w : World} (hM : MoverAt B J ov force w l) (ha : Asc l) (r : Rf) (hrk : RfOk r) (hl : l.length ≤ 900) (hB : B ≤ J) :
  Calls Tryz.prog 238 #[.pointer (some ⟨J, 0, none⟩), .agg #[.string r.name, .int .i64 r.id]] w
   fun e w' => e = .returned (.tuple #[]) ∧ MoverAt B J ov force w' (putRf r l) ∧ Below B w w' := by
 obtain ⟨v, hG, hvJ, hcJ⟩ := hM
 obtain ⟨va, vc, rfl⟩ := hG.shape
 have hJw := lt_of_block hcJ
 obtain ⟨Q, hQ, hQ1, hy⟩ := cls_box w #[.string r.name, .int .i64 r.id] 62
 have y0 := hy 0 _ rfl
 have y1 := hy 1 _ rfl
 clear hy
 have hQb := hQ.below
 have hQn := hQ.next
 have hQg := cls_grown hQ
 have cJ := fun x (hx : In Q x) => block_cell (w := x) (j := 0) ((hQb x hx).block _ hJw |>.trans hcJ) rfl
 have Hs := Lib.hid (fun x (hx : In Q x) => searchR_any l _ _ r.name x ((hG.any (by omega)).below (hQb _ hx)) ha)
 have hlo := loR_le l r.name
 have HI := Lib.hid (ins_put l r)
 generalize loR l r.name = k at *
 have HG := Lib.hid hG
 have HcJ := Lib.hid hcJ
 have Hrk := Lib.hid hrk
 clear hG hcJ ha hrk
 go_enter Tryz.func238, Tryz.ntmps238
 go_wp2_with fail
 refine wp_region_quiet_below (by kernel_rfl) (by kernel_rfl) ?_
 repeat (first | go_big_quiet_skip | quiet_step (exact Calls.regrown_of (Hs.out _ (hQg _ _ _ hQ1))))
 refine wpQuiet_nil ?_
 intro _ hw'
 obtain ⟨⟨dq, osq⟩, hw''⟩ := hw'
 subst hw''
 have hQ2 := hQg _ dq osq hQ1
 generalize Go.Sort.grow (redrawn _ dq) osq = w5 at *
 go_wp2_with fail
 have hQ0 := hQ.drew _ hQ2
 refine any_start (by kernel_rfl) rfl ?_
 generalize w5.drew = x0 at *
 refine any_take 0 (.pointer (some ⟨J, 0, none⟩)) rfl (by kernel_rfl) (by kernel_rfl) (by kernel_rfl) (fun _ _ _ h => h) (by rfl) (fun w => ?_) ?_
 ·go_simp
 simp only [Act.put, List.setIfInBounds_toArray, List.set_cons_zero, List.set_cons_succ]
 refine any_take 1 (.pointer (some ⟨J, 0, none⟩)) rfl (by kernel_rfl) (by kernel_rfl) (by kernel_rfl) (fun _ _ _ h => h) (by rfl) (fun w => ?_) ?_
 ·go_simp
 simp only [Act.put, List.setIfInBounds_toArray, List.set_cons_zero, List.set_cons_succ]
 refine any_take 2 (.pointer (some ⟨J, 0, none⟩)) rfl (by kernel_rfl) (by kernel_rfl) (by kernel_rfl) (fun _ _ _ h => h) (by rfl) (fun w => ?_) ?_
 ·go_simp
 simp only [Act.put, List.setIfInBounds_toArray, List.set_cons_zero, List.set_cons_succ]
 refine any_take 3 (.pointer (some ⟨J, 0, none⟩)) rfl (by kernel_rfl) (by kernel_rfl) (by kernel_rfl) (fun _ _ _ h => h) (by rfl) (fun w => ?_) ?_
 ·go_simp
 simp only [Act.put, List.setIfInBounds_toArray, List.set_cons_zero, List.set_cons_succ]
 refine any_take 5 (.int .i64 (k : Int)) rfl (by kernel_rfl) (by kernel_rfl) (by kernel_rfl) (fun _ _ _ h => h) (by rfl) (fun w => ?_) ?_
 ·go_simp
 simp only [Act.put, List.setIfInBounds_toArray, List.set_cons_zero, List.set_cons_succ]
 have z0 := y0 _ hQ0
 have z1 := y1 _ hQ0
 have zJ := cJ _ hQ0
 have hin := insertRefs_any (i := k) (HG.out.below (hQb _ hQ0)) Hrk.out (show l.length ≤ 1000 by omega) (show B ≤ x0.heap.size by have := (hQb _ hQ0).size; omega) hlo rfl
 rw [HI.out] at hin
 have Hin := Lib.hid hin
 have HE := Lib.hid (fun w9 v' hG9 hu9 hat9 => mover_end (v' := v') hB hJw HG.out hvJ HcJ.out (hQb _ hQ0) (w9 := w9) (m := putRf r l) hG9 hu9 hat9)
 have HJ9 := Lib.hid (fun w9 (hu9 : Upd (fun b => (Value.slice va l.length vc).ownBlock = some b) x0 w9) => hu9.blk (((hQb _ hQ0).block _ hJw).trans HcJ.out) hvJ)
 have hzJ := fun (o : Go.Obj) => cJ _ (hQ.alloc _ o hQ0)
 have hz0 := fun (o : Go.Obj) => y0 _ (hQ.alloc _ o hQ0)
 have hz1 := fun (o : Go.Obj) => y1 _ (hQ.alloc _ o hQ0)
 clear hin hQ1 hQ2 Hs
 refine any_two 4 6 (by kernel_rfl) (op_do rfl (by rfl) (fun K hK => ?_)) (op_do rfl (by rfl) (fun K hK => ?_))
 ·go_wp2_with fail
  refine any_one 6 (by kernel_rfl) rfl (by rfl) (fun K hK => ?_)
  go_wp2_with fail
  refine any_one 7 (by kernel_rfl) rfl (by rfl) (fun K hK => ?_)
  go_wp2_with fail
  refine any_one 8 (by kernel_rfl) rfl (by rfl) (fun K hK => ?_)
  go_wp2_with fail
  refine Hin.out.mono ?_
  rintro e w9 ⟨v', rfl, hG9, hu9, hat9⟩
  have Hend := Lib.hid (HE.out _ _ hG9 hu9 hat9)
  have hJ9 := HJ9.out _ hu9
  have cJ9 := block_cell (j := 0) hJ9 rfl
  have fJ9 := block_free (j := 0) hJ9
  obtain ⟨⟨va9, vc9⟩, hv9⟩ : ∃ p : Option Addr × Nat, v' = .slice p.1 (putRf r l).length p.2 := by
   obtain ⟨a, c, h⟩ := hG9.shape
   exact ⟨(a, c), h⟩
  subst hv9
  clear hG9 hu9 hat9 hJ9
  go_wp2_with fail
  refine any_one 9 (by kernel_rfl) rfl (by rfl) (fun K hK => ?_)
  go_wp2_with fail
  refine any_one 10 (by kernel_rfl) rfl (by rfl) (fun K hK => ?_)
  go_wp2_with fail
  refine any_one 11 (by kernel_rfl) rfl (by rfl) (fun K hK => ?_)
  go_wp2_with fail
  refine any_done (by kernel_rfl) ?_
  go_wp2_with fail
  go_end0
  exact ⟨rfl, Hend.out⟩
 ·go_wp2_with fail
  refine any_two 4 7 (by kernel_rfl) (op_do rfl (by rfl) (fun K hK => ?_)) (op_do rfl (by rfl) (fun K hK => ?_))
  ·go_wp2_with fail
   refine any_one 7 (by kernel_rfl) rfl (by rfl) (fun K hK => ?_)
   go_wp2_with fail
   refine any_one 8 (by kernel_rfl) rfl (by rfl) (fun K hK => ?_)
   go_wp2_with fail
   refine Hin.out.mono ?_
   rintro e w9 ⟨v', rfl, hG9, hu9, hat9⟩
   have Hend := Lib.hid (HE.out _ _ hG9 hu9 hat9)
   have hJ9 := HJ9.out _ hu9
   have cJ9 := block_cell (j := 0) hJ9 rfl
   have fJ9 := block_free (j := 0) hJ9
   obtain ⟨⟨va9, vc9⟩, hv9⟩ : ∃ p : Option Addr × Nat, v' = .slice p.1 (putRf r l).length p.2 := by
    obtain ⟨a, c, h⟩ := hG9.shape
    exact ⟨(a, c), h⟩
   subst hv9
   clear hG9 hu9 hat9 hJ9
   go_wp2_with fail
   refine any_one 9 (by kernel_rfl) rfl (by rfl) (fun K hK => ?_)
   go_wp2_with fail
   refine any_one 10 (by kernel_rfl) rfl (by rfl) (fun K hK => ?_)
   go_wp2_with fail
   refine any_one 11 (by kernel_rfl) rfl (by rfl) (fun K hK => ?_)
   go_wp2_with fail
   refine any_done (by kernel_rfl) ?_
   go_wp2_with fail
   go_end0
   exact ⟨rfl, Hend.out⟩
  ·go_wp2_with fail
   refine any_one 4 (by kernel_rfl) rfl (by rfl) (fun K hK => ?_)
   go_wp2_with fail
   refine any_one 8 (by kernel_rfl) rfl (by rfl) (fun K hK => ?_)
   go_wp2_with fail
   refine Hin.out.mono ?_
   rintro e w9 ⟨v', rfl, hG9, hu9, hat9⟩
   have Hend := Lib.hid (HE.out _ _ hG9 hu9 hat9)
   have hJ9 := HJ9.out _ hu9
   have cJ9 := block_cell (j := 0) hJ9 rfl
   have fJ9 := block_free (j := 0) hJ9
   obtain ⟨⟨va9, vc9⟩, hv9⟩ : ∃ p : Option Addr × Nat, v' = .slice p.1 (putRf r l).length p.2 := by
    obtain ⟨a, c, h⟩ := hG9.shape
    exact ⟨(a, c), h⟩
   subst hv9
   clear hG9 hu9 hat9 hJ9
   go_wp2_with fail
   refine any_one 9 (by kernel_rfl) rfl (by rfl) (fun K hK => ?_)
   go_wp2_with fail
   refine any_one 10 (by kernel_rfl) rfl (by rfl) (fun K hK => ?_)
   go_wp2_with fail
   refine any_one 11 (by kernel_rfl) rfl (by rfl) (fun K hK => ?_)
   go_wp2_with fail
   refine any_done (by kernel_rfl) ?_
   go_wp2_with fail
   go_end0
   exact ⟨rfl, Hend.out⟩
theorem StoreV.low {B : Nat} {w w' : World} {v : Value} {l : List Obj} (h : StoreV (fun b => b < B) w v l) (hb : Below B w w') : StoreV (fun b => b < B) w' v l :=
 h.same fun b hS => hb.block b hS
theorem kind_id {objs : List Obj} (hR : Right objs) {id : Int} (h : kindOf objs id ≠ 0) : id ≠ 0 := by
 intro e
 subst e
 unfold kindOf at h
 cases hf : objs.find? (fun o => o.id == 0) with
 | none => rw [hf] at h; exact h rfl
 | some o =>
  have h1 := List.find?_some hf
  obtain ⟨i, hi, rfl⟩ := mem_obj (List.mem_of_find?_eq_some hf)
  have h2 := checkObj_ok (hR.each i hi)
  have h3 : (obj objs i).id = 0 := by simpa using h1
  omega
theorem moveErr_state {l : List Rf} {objs : List Obj} {u : Mv} {force : Bool} (h : idOf l u.name ≠ u.old) : moveErr l objs u force = 4 := by unfold moveErr; rw [if_pos h]
theorem moveErr_gone {l : List Rf} {objs : List Obj} {u : Mv} {force : Bool} (h : idOf l u.name = u.old) (hn : u.new = 0) : moveErr l objs u force = 0 := by unfold moveErr; rw [if_neg (by simp [h]), if_pos hn]
theorem moveErr_commit {l : List Rf} {objs : List Obj} {u : Mv} {force : Bool} (h : idOf l u.name = u.old) (hn : u.new ≠ 0) (hc : commitErr objs u.new ≠ 0) : moveErr l objs u force = commitErr objs u.new := by unfold moveErr; rw [if_neg (by simp [h]), if_neg hn, if_pos hc]
theorem moveErr_behind {l : List Rf} {objs : List Obj} {u : Mv} {force : Bool} (h : idOf l u.name = u.old) (hn : u.new ≠ 0) (hc : commitErr objs u.new = 0) (hb : u.old ≠ 0 ∧ force = false ∧ behindB objs u.old u.new = false) : moveErr l objs u force = 4 := by
 unfold moveErr; rw [if_neg (by simp [h]), if_neg hn, if_neg (by simp [hc]), if_pos hb]
theorem moveErr_ok {l : List Rf} {objs : List Obj} {u : Mv} {force : Bool} (h : idOf l u.name = u.old) (hn : u.new ≠ 0) (hc : commitErr objs u.new = 0) (hb : ¬ (u.old ≠ 0 ∧ force = false ∧ behindB objs u.old u.new = false)) : moveErr l objs u force = 0 := by
 unfold moveErr; rw [if_neg (by simp [h]), if_neg hn, if_neg (by simp [hc]), if_neg hb]
set_option maxRecDepth 100000 in
set_option maxHeartbeats 8000000 in
theorem move_any {B J : Nat} {ov : Value} {force : Bool} {l : List Rf} {objs : List Obj} {w : World} (hM : MoverAt B J ov force w l) (ha : Asc l) (hcm : ∀ r ∈ l, kindOf objs r.id = 3) (hR : Right objs) (ho : StoreV (fun b => b < B) w ov objs)
  (u : Mv) (hu : I64 u.old ∧ I64 u.new ∧ u.name.size ≤ 140737488351232) (hl : l.length ≤ 800) (hB : B ≤ J) :
  Calls Tryz.prog 196 #[.pointer (some ⟨J, 0, none⟩), .agg #[.string u.name, .int .i64 u.old, .int .i64 u.new]] w
   fun e w' => e = .returned (.int .i64 (moveErr l objs u force)) ∧ Below B w w' ∧ (moveErr l objs u force = 0 → MoverAt B J ov force w' (setRf l u.name u.new)) := by
 have hM0 := hM
 obtain ⟨v, hG, hvJ, hcJ⟩ := hM
 obtain ⟨va, vc, rfl⟩ := hG.shape
 obtain ⟨oa, oc, rfl⟩ := ho.vshape
 have hJw := lt_of_block hcJ
 obtain ⟨Q, hQ, hQ1, hy⟩ := cls_box w #[.string u.name, .int .i64 u.old, .int .i64 u.new] 107
 have y0 := hy 0 _ rfl
 have y1 := hy 1 _ rfl
 have y2 := hy 2 _ rfl
 clear hy
 have hQb := hQ.below
 have hQn := hQ.next
 have hQg := cls_grown hQ
 have cJ := fun x (hx : In Q x) => block_cell (w := x) (j := 0) ((hQb x hx).block _ hJw |>.trans hcJ) rfl
 have cJ1 := fun x (hx : In Q x) => block_cell (w := x) (j := 1) ((hQb x hx).block _ hJw |>.trans hcJ) rfl
 have cJ2 := fun x (hx : In Q x) => block_cell (w := x) (j := 2) ((hQb x hx).block _ hJw |>.trans hcJ) rfl
 have hrv := hG.any (by omega)
 have Hf := Lib.hid (fun x (hx : In Q x) => find_any l _ _ u.name x (hrv.below (hQb _ hx)))
 have Hlow := Lib.hid (fun x (hx : In Q x) => (hQb x hx).mono (show B ≤ w.heap.size by omega))
 have Hco := Lib.hid (fun x (hx : In Q x) => refsCommit_any objs _ _ u.new x (ho.below (hQb _ hx)) hR.rising)
 have HME := Lib.hid (fun w9 v' xo (hxo : In Q xo) m hG9 hu9 hat9 => mover_end (v' := v') (xo := xo) (w9 := w9) (m := m) hB hJw hG hvJ hcJ (hQb _ hxo) hG9 hu9 hat9)
 have HG := Lib.hid hG
 have HM := Lib.hid (fun x (hx : In Q x) => hM0.below (hQb x hx))
 have HJ9 := Lib.hid (fun xo w9 (hxo : In Q xo) (hu9 : Upd (fun b => (Value.slice va l.length vc).ownBlock = some b) xo w9) => hu9.blk (((hQb _ hxo).block _ hJw).trans hcJ) hvJ)
 have Hrk := Lib.hid (show RfOk ⟨u.name, u.new⟩ from ⟨hu.2.1, hu.2.2⟩)
 have Hid0 := Lib.hid (show idOf l u.name = if findRf l u.name = -1 then 0 else (rf l (findRf l u.name).toNat).id from rfl)
 have Hha := Lib.hid ha
 clear hM0
 by_cases hf : findRf l u.name = -1
 ·have Hi0 := Lib.hid (show idOf l u.name = 0 by rw [Hid0.out, if_pos hf])
  have HKN := Lib.hid (keep_none hf)
  have x1 : True := trivial
  rw [hf] at Hf
  clear hf hcm
  by_cases hs : (0 : Int) = u.old
  case neg =>
   have HE := Lib.hid (moveErr_state (objs := objs) (force := force) (show idOf l u.name ≠ u.old by rw [Hi0.out]; exact hs))
   have HNZ := Lib.hid (show (4 : Int) ≠ 0 by decide)
   have q1 : ((0 : Int) != u.old) = true := by simpa using hs
   clear hs
   go_enter Tryz.func196, Tryz.ntmps196
   go_wp2_with fail
   refine wp_region_quiet_below (by kernel_rfl) (by kernel_rfl) ?_
   repeat (first | go_big_quiet_skip | quiet_step (exact Calls.regrown_of (Hf.out _ (hQg _ _ _ hQ1))))
   refine wpQuiet_nil ?_
   intro _ hw'
   obtain ⟨⟨dq, osq⟩, hw''⟩ := hw'
   subst hw''
   have hQ2 := hQg _ dq osq hQ1
   generalize Go.Sort.grow (redrawn _ dq) osq = w2 at *
   clear hQ1
   have a0 := y0 _ hQ2
   have a1 := y1 _ hQ2
   have a2 := y2 _ hQ2
   have j0 := cJ _ hQ2
   have j1 := cJ1 _ hQ2
   have j2 := cJ2 _ hQ2
   go_wp2_with fail
   go_ret
   exact ⟨ret_int HE.out.symm, Hlow.out _ hQ2, fun h => absurd (HE.out.symm.trans h) HNZ.out⟩
  case pos =>
   have HI := Lib.hid (Hi0.out.trans hs)
   have q1 : ((0 : Int) != u.old) = false := by simpa using hs
   have HO := Lib.hid hs
   clear hs
   by_cases hn : u.new = 0
   ·have HE := Lib.hid (moveErr_gone (objs := objs) (force := force) HI.out hn)
    have HS := Lib.hid (show setRf l u.name u.new = l by unfold setRf; rw [if_pos hn, HKN.out])
    have q2 : (u.new != 0) = false := by simpa using hn
    clear hn
    go_enter Tryz.func196, Tryz.ntmps196
    go_wp2_with fail
    refine wp_region_quiet_below (by kernel_rfl) (by kernel_rfl) ?_
    repeat (first | go_big_quiet_skip | quiet_step (exact Calls.regrown_of (Hf.out _ (hQg _ _ _ hQ1))))
    refine wpQuiet_nil ?_
    intro _ hw'
    obtain ⟨⟨dq, osq⟩, hw''⟩ := hw'
    subst hw''
    have hQ2 := hQg _ dq osq hQ1
    generalize Go.Sort.grow (redrawn _ dq) osq = w2 at *
    clear hQ1
    have a0 := y0 _ hQ2
    have a1 := y1 _ hQ2
    have a2 := y2 _ hQ2
    have j0 := cJ _ hQ2
    have j1 := cJ1 _ hQ2
    have j2 := cJ2 _ hQ2
    go_wp2_with fail
    go_ret
    exact ⟨ret_int HE.out.symm, Hlow.out _ hQ2, fun _ => by rw [HS.out]; exact HM.out _ hQ2⟩
   ·have q2 : (u.new != 0) = true := by simpa using hn
    by_cases hce : commitErr objs u.new = 0
    ·have HE := Lib.hid (moveErr_ok (force := force) HI.out hn hce (by rintro ⟨h, _⟩; exact h HO.out.symm))
     have HS := Lib.hid (show setRf l u.name u.new = putRf ⟨u.name, u.new⟩ l by unfold setRf; rw [if_neg hn, HKN.out])
     rw [hce] at Hco
     clear hce hn
     go_enter Tryz.func196, Tryz.ntmps196
     go_wp2_with fail
     refine wp_region_quiet_below (by kernel_rfl) (by kernel_rfl) ?_
     repeat (first | go_big_quiet_skip | quiet_step (exact Calls.regrown_of (Hf.out _ (hQg _ _ _ hQ1))))
     refine wpQuiet_nil ?_
     intro _ hw'
     obtain ⟨⟨dq, osq⟩, hw''⟩ := hw'
     subst hw''
     have hQ2 := hQg _ dq osq hQ1
     generalize Go.Sort.grow (redrawn _ dq) osq = w2 at *
     clear hQ1
     have a0 := y0 _ hQ2
     have a1 := y1 _ hQ2
     have a2 := y2 _ hQ2
     have j0 := cJ _ hQ2
     have j1 := cJ1 _ hQ2
     have j2 := cJ2 _ hQ2
     go_wp2_with fail
     clear a0 a1 a2 j0 j1 j2 x1
     refine wp_region_quiet_below (by kernel_rfl) (by kernel_rfl) ?_
     repeat (first | go_big_quiet_skip | quiet_step (exact Calls.regrown_of (Hco.out _ (hQg _ _ _ hQ2))))
     refine wpQuiet_nil ?_
     intro _ hw'
     obtain ⟨⟨dq3, osq3⟩, hw''⟩ := hw'
     subst hw''
     have hQ3 := hQg _ dq3 osq3 hQ2
     generalize Go.Sort.grow (redrawn _ dq3) osq3 = w3 at *
     clear hQ2
     have a0 := y0 _ hQ3
     have a1 := y1 _ hQ3
     have a2 := y2 _ hQ3
     have j0 := cJ _ hQ3
     have j1 := cJ1 _ hQ3
     have j2 := cJ2 _ hQ3
     go_wp2_with fail
     clear a0 a1 a2 j0 j1 j2
     refine wp_region_quiet_below (by kernel_rfl) (by kernel_rfl) ?_
     repeat (first | go_big_quiet_skip | quiet_step (fail))
     refine wpQuiet_nil ?_
     intro _ hw'
     obtain ⟨⟨dq4, osq4⟩, hw''⟩ := hw'
     subst hw''
     have hQ4 := hQg _ dq4 osq4 hQ3
     generalize Go.Sort.grow (redrawn _ dq4) osq4 = w4 at *
     clear hQ3
     have a0 := y0 _ hQ4
     have a1 := y1 _ hQ4
     have a2 := y2 _ hQ4
     have j0 := cJ _ hQ4
     have j1 := cJ1 _ hQ4
     have j2 := cJ2 _ hQ4
     go_wp2_with fail
     have Hput := Lib.hid (putR_any (HM.out _ hQ4) Hha.out ⟨u.name, u.new⟩ Hrk.out (by omega) hB)
     refine Hput.out.mono ?_
     rintro e w10 ⟨rfl, hM10, hb10⟩
     have HX := Lib.hid (And.intro ((Hlow.out _ hQ4).trans hb10) hM10)
     go_wp2_with fail
     go_ret
     exact ⟨ret_int HE.out.symm, HX.out.1, fun _ => by rw [HS.out]; exact HX.out.2⟩
    ·have HE := Lib.hid (moveErr_commit (force := force) HI.out hn hce)
     have HNZ := Lib.hid hce
     have q3 : (commitErr objs u.new != 0) = true := by simpa using hce
     clear hce hn
     go_enter Tryz.func196, Tryz.ntmps196
     go_wp2_with fail
     refine wp_region_quiet_below (by kernel_rfl) (by kernel_rfl) ?_
     repeat (first | go_big_quiet_skip | quiet_step (exact Calls.regrown_of (Hf.out _ (hQg _ _ _ hQ1))))
     refine wpQuiet_nil ?_
     intro _ hw'
     obtain ⟨⟨dq, osq⟩, hw''⟩ := hw'
     subst hw''
     have hQ2 := hQg _ dq osq hQ1
     generalize Go.Sort.grow (redrawn _ dq) osq = w2 at *
     clear hQ1
     have a0 := y0 _ hQ2
     have a1 := y1 _ hQ2
     have a2 := y2 _ hQ2
     have j0 := cJ _ hQ2
     have j1 := cJ1 _ hQ2
     have j2 := cJ2 _ hQ2
     go_wp2_with fail
     clear a0 a1 a2 j0 j1 j2 x1
     refine wp_region_quiet_below (by kernel_rfl) (by kernel_rfl) ?_
     repeat (first | go_big_quiet_skip | quiet_step (exact Calls.regrown_of (Hco.out _ (hQg _ _ _ hQ2))))
     refine wpQuiet_nil ?_
     intro _ hw'
     obtain ⟨⟨dq3, osq3⟩, hw''⟩ := hw'
     subst hw''
     have hQ3 := hQg _ dq3 osq3 hQ2
     generalize Go.Sort.grow (redrawn _ dq3) osq3 = w3 at *
     clear hQ2
     have a0 := y0 _ hQ3
     have a1 := y1 _ hQ3
     have a2 := y2 _ hQ3
     have j0 := cJ _ hQ3
     have j1 := cJ1 _ hQ3
     have j2 := cJ2 _ hQ3
     go_wp2_with fail
     go_ret
     exact ⟨ret_int HE.out.symm, Hlow.out _ hQ3, fun h => absurd (HE.out.symm.trans h) HNZ.out⟩
 ·obtain ⟨k, hk, hfk, hkn⟩ := find_some hf
  have Hi0 := Lib.hid (show idOf l u.name = (rf l k).id by rw [Hid0.out, if_neg hf, hfk]; rfl)
  have HKW := Lib.hid (without_keep ha hk hkn)
  have hk3 := hcm _ (rf_mem hk)
  have Hwn := Lib.hid (kind_id hR (show kindOf objs (rf l k).id ≠ 0 by rw [hk3]; decide))
  have Hk3 := Lib.hid hk3
  have qw : ((rf l k).id != 0) = true := by simpa using Hwn.out
  rw [hfk] at Hf
  obtain ⟨a6, n6, c6, HN6, e6, h61, h62, h63, h64, h65⟩ := hrv.open
  cases e6
  obtain ⟨b6, off6, rfl, hb6, k0, k1⟩ := h64 (by omega)
  have cx := fun x (hx : In Q x) => k1 k x hk (hQb x hx)
  have hi1 : (0 : Int) ≤ (k : Int) := by omega
  have hi2 : (k : Int) < (l.length : Int) := by omega
  have hwk := wrap_in (n := (k : Int) + 1) (by omega)
  clear hf hfk hkn hcm hk3 k0 k1 h64 h65 hrv
  by_cases hs : (rf l k).id = u.old
  case neg =>
   have HE := Lib.hid (moveErr_state (objs := objs) (force := force) (show idOf l u.name ≠ u.old by rw [Hi0.out]; exact hs))
   have HNZ := Lib.hid (show (4 : Int) ≠ 0 by decide)
   have q1 : ((rf l k).id != u.old) = true := by simpa using hs
   clear hs
   go_enter Tryz.func196, Tryz.ntmps196
   go_wp2_with fail
   refine wp_region_quiet_below (by kernel_rfl) (by kernel_rfl) ?_
   repeat (first | go_big_quiet_skip | quiet_step (exact Calls.regrown_of (Hf.out _ (hQg _ _ _ hQ1))))
   refine wpQuiet_nil ?_
   intro _ hw'
   obtain ⟨⟨dq, osq⟩, hw''⟩ := hw'
   subst hw''
   have hQ2 := hQg _ dq osq hQ1
   generalize Go.Sort.grow (redrawn _ dq) osq = w2 at *
   clear hQ1
   have a0 := y0 _ hQ2
   have a1 := y1 _ hQ2
   have a2 := y2 _ hQ2
   have j0 := cJ _ hQ2
   have j1 := cJ1 _ hQ2
   have j2 := cJ2 _ hQ2
   have x1 := cx _ hQ2
   go_wp2_with fail
   go_ret
   exact ⟨ret_int HE.out.symm, Hlow.out _ hQ2, fun h => absurd (HE.out.symm.trans h) HNZ.out⟩
  case pos =>
   have HI := Lib.hid (Hi0.out.trans hs)
   have q1 : ((rf l k).id != u.old) = false := by simpa using hs
   have HO := Lib.hid hs
   have Hhas := Lib.hid (fun (h3 : kindOf objs u.new = 3) x (hx : In Q x) => has_any objs (rf l k).id u.new _ _ x (ho.below (hQb _ hx)) hR (by rw [Hk3.out]; decide) h3 hu.2.1)
   clear hs
   by_cases hn : u.new = 0
   ·have HE := Lib.hid (moveErr_gone (objs := objs) (force := force) HI.out hn)
    have HS := Lib.hid (show setRf l u.name u.new = keepRf l u.name by unfold setRf; rw [if_pos hn])
    have q2 : (u.new != 0) = false := by simpa using hn
    clear hn
    go_enter Tryz.func196, Tryz.ntmps196
    go_wp2_with fail
    refine wp_region_quiet_below (by kernel_rfl) (by kernel_rfl) ?_
    repeat (first | go_big_quiet_skip | quiet_step (exact Calls.regrown_of (Hf.out _ (hQg _ _ _ hQ1))))
    refine wpQuiet_nil ?_
    intro _ hw'
    obtain ⟨⟨dq, osq⟩, hw''⟩ := hw'
    subst hw''
    have hQ2 := hQg _ dq osq hQ1
    generalize Go.Sort.grow (redrawn _ dq) osq = w2 at *
    clear hQ1
    have a0 := y0 _ hQ2
    have a1 := y1 _ hQ2
    have a2 := y2 _ hQ2
    have j0 := cJ _ hQ2
    have j1 := cJ1 _ hQ2
    have j2 := cJ2 _ hQ2
    have x1 := cx _ hQ2
    go_wp2_with fail
    have Hdel := Lib.hid (deleteRefs_any (i := k) (HG.out.below (hQb _ hQ2)) (by omega) hk)
    refine Hdel.out.mono ?_
    rintro e w9 ⟨v', rfl, hG9, hu9, hat9⟩
    rw [HKW.out] at hG9
    have HMd := Lib.hid (HME.out _ _ _ hQ2 _ hG9 hu9 (.inl hat9))
    have hJ9 := HJ9.out _ _ hQ2 hu9
    have cJ9 := block_cell (j := 0) hJ9 rfl
    have fJ9 := block_free (j := 0) hJ9
    obtain ⟨⟨va9, vc9⟩, hv9⟩ : ∃ p : Option Addr × Nat, v' = .slice p.1 (keepRf l u.name).length p.2 := by
     obtain ⟨a, c, h⟩ := hG9.shape
     exact ⟨(a, c), h⟩
    subst hv9
    have b0 := hu9.cell a0 (by intro e; have := (HG.out.block e).2; simp at this)
    have b1 := hu9.cell a1 (by intro e; have := (HG.out.block e).2; simp at this)
    have b2 := hu9.cell a2 (by intro e; have := (HG.out.block e).2; simp at this)
    have b0' := (World.cell?_setCell_other w9 ⟨J, 0, none⟩ ⟨w.heap.size, 0, none⟩ (.slice va9 (keepRf l u.name).length vc9) (by intro e; have := congrArg Addr.block e; simp at this; omega)).trans b0
    have b2' := (World.cell?_setCell_other w9 ⟨J, 0, none⟩ ⟨w.heap.size, 2, none⟩ (.slice va9 (keepRf l u.name).length vc9) (by intro e; have := congrArg Addr.block e; simp at this; omega)).trans b2
    clear hG9 hu9 hat9 hJ9 Hdel a0 a1 a2 j0 j1 j2
    go_wp2_with fail
    go_ret
    exact ⟨ret_int HE.out.symm, HMd.out.2, fun _ => by rw [HS.out]; exact HMd.out.1⟩
   ·have q2 : (u.new != 0) = true := by simpa using hn
    have HS := Lib.hid (show setRf l u.name u.new = putRf ⟨u.name, u.new⟩ (keepRf l u.name) by unfold setRf; rw [if_neg hn])
    by_cases hce : commitErr objs u.new = 0
    ·have Hhas3 := Lib.hid (Hhas.out (commitErr_zero.1 hce))
     rw [HO.out] at Hhas3
     cases force
     ·cases hbh : behindB objs u.old u.new
      ·have HE := Lib.hid (moveErr_behind (force := false) HI.out hn hce ⟨by rw [← HO.out]; exact Hwn.out, rfl, hbh⟩)
       have HNZ := Lib.hid (show (4 : Int) ≠ 0 by decide)
       rw [hbh, ← HO.out] at Hhas3
       rw [hce] at Hco
       clear hce hn hbh
       go_enter Tryz.func196, Tryz.ntmps196
       go_wp2_with fail
       refine wp_region_quiet_below (by kernel_rfl) (by kernel_rfl) ?_
       repeat (first | go_big_quiet_skip | quiet_step (exact Calls.regrown_of (Hf.out _ (hQg _ _ _ hQ1))))
       refine wpQuiet_nil ?_
       intro _ hw'
       obtain ⟨⟨dq, osq⟩, hw''⟩ := hw'
       subst hw''
       have hQ2 := hQg _ dq osq hQ1
       generalize Go.Sort.grow (redrawn _ dq) osq = w2 at *
       clear hQ1
       have a0 := y0 _ hQ2
       have a1 := y1 _ hQ2
       have a2 := y2 _ hQ2
       have j0 := cJ _ hQ2
       have j1 := cJ1 _ hQ2
       have j2 := cJ2 _ hQ2
       have x1 := cx _ hQ2
       go_wp2_with fail
       clear a0 a1 a2 j0 j1 j2 x1
       refine wp_region_quiet_below (by kernel_rfl) (by kernel_rfl) ?_
       repeat (first | go_big_quiet_skip | quiet_step (exact Calls.regrown_of (Hco.out _ (hQg _ _ _ hQ2))))
       refine wpQuiet_nil ?_
       intro _ hw'
       obtain ⟨⟨dq3, osq3⟩, hw''⟩ := hw'
       subst hw''
       have hQ3 := hQg _ dq3 osq3 hQ2
       generalize Go.Sort.grow (redrawn _ dq3) osq3 = w3 at *
       clear hQ2
       have a0 := y0 _ hQ3
       have a1 := y1 _ hQ3
       have a2 := y2 _ hQ3
       have j0 := cJ _ hQ3
       have j1 := cJ1 _ hQ3
       have j2 := cJ2 _ hQ3
       go_wp2_with fail
       clear a0 a1 a2 j0 j1 j2
       refine wp_region_quiet_below (by kernel_rfl) (by kernel_rfl) ?_
       repeat (first | go_big_quiet_skip | quiet_step (exact Calls.regrown_of (Hhas3.out _ (hQg _ _ _ hQ3))))
       refine wpQuiet_nil ?_
       intro _ hw'
       obtain ⟨⟨dq4, osq4⟩, hw''⟩ := hw'
       subst hw''
       have hQ4 := hQg _ dq4 osq4 hQ3
       generalize Go.Sort.grow (redrawn _ dq4) osq4 = w4 at *
       clear hQ3
       have a0 := y0 _ hQ4
       have a1 := y1 _ hQ4
       have a2 := y2 _ hQ4
       have j0 := cJ _ hQ4
       have j1 := cJ1 _ hQ4
       have j2 := cJ2 _ hQ4
       go_wp2_with fail
       go_ret
       exact ⟨ret_int HE.out.symm, Hlow.out _ hQ4, fun h => absurd (HE.out.symm.trans h) HNZ.out⟩
      ·have HE := Lib.hid (moveErr_ok (force := false) HI.out hn hce (by rintro ⟨_, _, h⟩; rw [hbh] at h; cases h))
       rw [hbh, ← HO.out] at Hhas3
       rw [hce] at Hco
       clear hce hn hbh
       go_enter Tryz.func196, Tryz.ntmps196
       go_wp2_with fail
       refine wp_region_quiet_below (by kernel_rfl) (by kernel_rfl) ?_
       repeat (first | go_big_quiet_skip | quiet_step (exact Calls.regrown_of (Hf.out _ (hQg _ _ _ hQ1))))
       refine wpQuiet_nil ?_
       intro _ hw'
       obtain ⟨⟨dq, osq⟩, hw''⟩ := hw'
       subst hw''
       have hQ2 := hQg _ dq osq hQ1
       generalize Go.Sort.grow (redrawn _ dq) osq = w2 at *
       clear hQ1
       have a0 := y0 _ hQ2
       have a1 := y1 _ hQ2
       have a2 := y2 _ hQ2
       have j0 := cJ _ hQ2
       have j1 := cJ1 _ hQ2
       have j2 := cJ2 _ hQ2
       have x1 := cx _ hQ2
       go_wp2_with fail
       clear a0 a1 a2 j0 j1 j2 x1
       refine wp_region_quiet_below (by kernel_rfl) (by kernel_rfl) ?_
       repeat (first | go_big_quiet_skip | quiet_step (exact Calls.regrown_of (Hco.out _ (hQg _ _ _ hQ2))))
       refine wpQuiet_nil ?_
       intro _ hw'
       obtain ⟨⟨dq3, osq3⟩, hw''⟩ := hw'
       subst hw''
       have hQ3 := hQg _ dq3 osq3 hQ2
       generalize Go.Sort.grow (redrawn _ dq3) osq3 = w3 at *
       clear hQ2
       have a0 := y0 _ hQ3
       have a1 := y1 _ hQ3
       have a2 := y2 _ hQ3
       have j0 := cJ _ hQ3
       have j1 := cJ1 _ hQ3
       have j2 := cJ2 _ hQ3
       go_wp2_with fail
       clear a0 a1 a2 j0 j1 j2
       refine wp_region_quiet_below (by kernel_rfl) (by kernel_rfl) ?_
       repeat (first | go_big_quiet_skip | quiet_step (exact Calls.regrown_of (Hhas3.out _ (hQg _ _ _ hQ3))))
       refine wpQuiet_nil ?_
       intro _ hw'
       obtain ⟨⟨dq4, osq4⟩, hw''⟩ := hw'
       subst hw''
       have hQ4 := hQg _ dq4 osq4 hQ3
       generalize Go.Sort.grow (redrawn _ dq4) osq4 = w4 at *
       clear hQ3
       have a0 := y0 _ hQ4
       have a1 := y1 _ hQ4
       have a2 := y2 _ hQ4
       have j0 := cJ _ hQ4
       have j1 := cJ1 _ hQ4
       have j2 := cJ2 _ hQ4
       go_wp2_with fail
       have Hdel := Lib.hid (deleteRefs_any (i := k) (HG.out.below (hQb _ hQ4)) (by omega) hk)
       refine Hdel.out.mono ?_
       rintro e w9 ⟨v', rfl, hG9, hu9, hat9⟩
       rw [HKW.out] at hG9
       have HMd := Lib.hid (HME.out _ _ _ hQ4 _ hG9 hu9 (.inl hat9))
       have hJ9 := HJ9.out _ _ hQ4 hu9
       have cJ9 := block_cell (j := 0) hJ9 rfl
       have fJ9 := block_free (j := 0) hJ9
       obtain ⟨⟨va9, vc9⟩, hv9⟩ : ∃ p : Option Addr × Nat, v' = .slice p.1 (keepRf l u.name).length p.2 := by
        obtain ⟨a, c, h⟩ := hG9.shape
        exact ⟨(a, c), h⟩
       subst hv9
       have b0 := hu9.cell a0 (by intro e; have := (HG.out.block e).2; simp at this)
       have b1 := hu9.cell a1 (by intro e; have := (HG.out.block e).2; simp at this)
       have b2 := hu9.cell a2 (by intro e; have := (HG.out.block e).2; simp at this)
       have b0' := (World.cell?_setCell_other w9 ⟨J, 0, none⟩ ⟨w.heap.size, 0, none⟩ (.slice va9 (keepRf l u.name).length vc9) (by intro e; have := congrArg Addr.block e; simp at this; omega)).trans b0
       have b2' := (World.cell?_setCell_other w9 ⟨J, 0, none⟩ ⟨w.heap.size, 2, none⟩ (.slice va9 (keepRf l u.name).length vc9) (by intro e; have := congrArg Addr.block e; simp at this; omega)).trans b2
       clear hG9 hu9 hat9 hJ9 Hdel a0 a1 a2 j0 j1 j2
       go_wp2_with fail
       have Hput := Lib.hid (putR_any HMd.out.1 (keep_asc Hha.out _) ⟨u.name, u.new⟩ Hrk.out (show (keepRf l u.name).length ≤ 900 by have := List.length_filter_le (fun r : Rf => !(r.name.toList == u.name.toList)) l; unfold keepRf; omega) hB)
       refine Hput.out.mono ?_
       rintro e w10 ⟨rfl, hM10, hb10⟩
       have HX := Lib.hid (And.intro (HMd.out.2.trans hb10) hM10)
       go_wp2_with fail
       go_ret
       exact ⟨ret_int HE.out.symm, HX.out.1, fun _ => by rw [HS.out]; exact HX.out.2⟩
     ·have HE := Lib.hid (moveErr_ok (force := true) HI.out hn hce (by rintro ⟨_, h, _⟩; cases h))
      rw [hce] at Hco
      clear hce hn
      go_enter Tryz.func196, Tryz.ntmps196
      go_wp2_with fail
      refine wp_region_quiet_below (by kernel_rfl) (by kernel_rfl) ?_
      repeat (first | go_big_quiet_skip | quiet_step (exact Calls.regrown_of (Hf.out _ (hQg _ _ _ hQ1))))
      refine wpQuiet_nil ?_
      intro _ hw'
      obtain ⟨⟨dq, osq⟩, hw''⟩ := hw'
      subst hw''
      have hQ2 := hQg _ dq osq hQ1
      generalize Go.Sort.grow (redrawn _ dq) osq = w2 at *
      clear hQ1
      have a0 := y0 _ hQ2
      have a1 := y1 _ hQ2
      have a2 := y2 _ hQ2
      have j0 := cJ _ hQ2
      have j1 := cJ1 _ hQ2
      have j2 := cJ2 _ hQ2
      have x1 := cx _ hQ2
      go_wp2_with fail
      clear a0 a1 a2 j0 j1 j2 x1
      refine wp_region_quiet_below (by kernel_rfl) (by kernel_rfl) ?_
      repeat (first | go_big_quiet_skip | quiet_step (exact Calls.regrown_of (Hco.out _ (hQg _ _ _ hQ2))))
      refine wpQuiet_nil ?_
      intro _ hw'
      obtain ⟨⟨dq3, osq3⟩, hw''⟩ := hw'
      subst hw''
      have hQ3 := hQg _ dq3 osq3 hQ2
      generalize Go.Sort.grow (redrawn _ dq3) osq3 = w3 at *
      clear hQ2
      have a0 := y0 _ hQ3
      have a1 := y1 _ hQ3
      have a2 := y2 _ hQ3
      have j0 := cJ _ hQ3
      have j1 := cJ1 _ hQ3
      have j2 := cJ2 _ hQ3
      go_wp2_with fail
      clear a0 a1 a2 j0 j1 j2
      refine wp_region_quiet_below (by kernel_rfl) (by kernel_rfl) ?_
      repeat (first | go_big_quiet_skip | quiet_step (fail))
      refine wpQuiet_nil ?_
      intro _ hw'
      obtain ⟨⟨dq4, osq4⟩, hw''⟩ := hw'
      subst hw''
      have hQ4 := hQg _ dq4 osq4 hQ3
      generalize Go.Sort.grow (redrawn _ dq4) osq4 = w4 at *
      clear hQ3
      have a0 := y0 _ hQ4
      have a1 := y1 _ hQ4
      have a2 := y2 _ hQ4
      have j0 := cJ _ hQ4
      have j1 := cJ1 _ hQ4
      have j2 := cJ2 _ hQ4
      go_wp2_with fail
      have Hdel := Lib.hid (deleteRefs_any (i := k) (HG.out.below (hQb _ hQ4)) (by omega) hk)
      refine Hdel.out.mono ?_
      rintro e w9 ⟨v', rfl, hG9, hu9, hat9⟩
      rw [HKW.out] at hG9
      have HMd := Lib.hid (HME.out _ _ _ hQ4 _ hG9 hu9 (.inl hat9))
      have hJ9 := HJ9.out _ _ hQ4 hu9
      have cJ9 := block_cell (j := 0) hJ9 rfl
      have fJ9 := block_free (j := 0) hJ9
      obtain ⟨⟨va9, vc9⟩, hv9⟩ : ∃ p : Option Addr × Nat, v' = .slice p.1 (keepRf l u.name).length p.2 := by
       obtain ⟨a, c, h⟩ := hG9.shape
       exact ⟨(a, c), h⟩
      subst hv9
      have b0 := hu9.cell a0 (by intro e; have := (HG.out.block e).2; simp at this)
      have b1 := hu9.cell a1 (by intro e; have := (HG.out.block e).2; simp at this)
      have b2 := hu9.cell a2 (by intro e; have := (HG.out.block e).2; simp at this)
      have b0' := (World.cell?_setCell_other w9 ⟨J, 0, none⟩ ⟨w.heap.size, 0, none⟩ (.slice va9 (keepRf l u.name).length vc9) (by intro e; have := congrArg Addr.block e; simp at this; omega)).trans b0
      have b2' := (World.cell?_setCell_other w9 ⟨J, 0, none⟩ ⟨w.heap.size, 2, none⟩ (.slice va9 (keepRf l u.name).length vc9) (by intro e; have := congrArg Addr.block e; simp at this; omega)).trans b2
      clear hG9 hu9 hat9 hJ9 Hdel a0 a1 a2 j0 j1 j2
      go_wp2_with fail
      have Hput := Lib.hid (putR_any HMd.out.1 (keep_asc Hha.out _) ⟨u.name, u.new⟩ Hrk.out (show (keepRf l u.name).length ≤ 900 by have := List.length_filter_le (fun r : Rf => !(r.name.toList == u.name.toList)) l; unfold keepRf; omega) hB)
      refine Hput.out.mono ?_
      rintro e w10 ⟨rfl, hM10, hb10⟩
      have HX := Lib.hid (And.intro (HMd.out.2.trans hb10) hM10)
      go_wp2_with fail
      go_ret
      exact ⟨ret_int HE.out.symm, HX.out.1, fun _ => by rw [HS.out]; exact HX.out.2⟩
    ·have HE := Lib.hid (moveErr_commit (force := force) HI.out hn hce)
     have HNZ := Lib.hid hce
     have q3 : (commitErr objs u.new != 0) = true := by simpa using hce
     clear hce hn
     go_enter Tryz.func196, Tryz.ntmps196
     go_wp2_with fail
     refine wp_region_quiet_below (by kernel_rfl) (by kernel_rfl) ?_
     repeat (first | go_big_quiet_skip | quiet_step (exact Calls.regrown_of (Hf.out _ (hQg _ _ _ hQ1))))
     refine wpQuiet_nil ?_
     intro _ hw'
     obtain ⟨⟨dq, osq⟩, hw''⟩ := hw'
     subst hw''
     have hQ2 := hQg _ dq osq hQ1
     generalize Go.Sort.grow (redrawn _ dq) osq = w2 at *
     clear hQ1
     have a0 := y0 _ hQ2
     have a1 := y1 _ hQ2
     have a2 := y2 _ hQ2
     have j0 := cJ _ hQ2
     have j1 := cJ1 _ hQ2
     have j2 := cJ2 _ hQ2
     have x1 := cx _ hQ2
     go_wp2_with fail
     clear a0 a1 a2 j0 j1 j2 x1
     refine wp_region_quiet_below (by kernel_rfl) (by kernel_rfl) ?_
     repeat (first | go_big_quiet_skip | quiet_step (exact Calls.regrown_of (Hco.out _ (hQg _ _ _ hQ2))))
     refine wpQuiet_nil ?_
     intro _ hw'
     obtain ⟨⟨dq3, osq3⟩, hw''⟩ := hw'
     subst hw''
     have hQ3 := hQg _ dq3 osq3 hQ2
     generalize Go.Sort.grow (redrawn _ dq3) osq3 = w3 at *
     clear hQ2
     have a0 := y0 _ hQ3
     have a1 := y1 _ hQ3
     have a2 := y2 _ hQ3
     have j0 := cJ _ hQ3
     have j1 := cJ1 _ hQ3
     have j2 := cJ2 _ hQ3
     go_wp2_with fail
     go_ret
     exact ⟨ret_int HE.out.symm, Hlow.out _ hQ3, fun h => absurd (HE.out.symm.trans h) HNZ.out⟩
end Go.Proofs.YtjdgpgfiomnjkaaGreatDoor
namespace Go.Proofs.YtjdgpgfiomnjkaaGreatDoor
open Go.RowKit
set_option linter.unusedVariables false
set_option linter.unusedSimpArgs false
structure DoesU (g : Nat) (f : Array Value) (l : List Mv) (w0 : World) (I : Nat → World → Prop) (err : Nat → Int) : Prop where
 enter : ∀ args w, (callFunc g args).run Tryz.prog w = .ok (.enter g args) w
 below : ∀ k x, I k x → Below w0.heap.size w0 x
 next : ∀ k x y, I k x → Below x.heap.size x y → I k y
 step : ∀ k x, k < l.length → scan err k = 0 → I k x →
  Calls Tryz.prog g (f ++ #[.agg #[.string (mv l k).name, .int .i64 (mv l k).old, .int .i64 (mv l k).new]]) x fun e w' => e = .returned (.int .i64 (err k)) ∧ Below w0.heap.size w0 w' ∧ (err k = 0 → I (k + 1) w')
set_option maxRecDepth 100000 in
set_option maxHeartbeats 2000000 in
theorem eachU_any {g : Nat} {f : Array Value} {l : List Mv} {w0 w : World} {I : Nat → World → Prop} {err : Nat → Int} (hd : DoesU g f l w0 I err) (lv : Value) (S : Nat → Prop) (h : MvsV S w0 lv l) (h0 : I 0 w) :
  Calls Tryz.prog 195 #[lv, .func (.func g) f #[]] w fun e w' => e = .returned (.int .i64 (scan err l.length)) ∧ Below w0.heap.size w0 w' ∧ (scan err l.length = 0 → I l.length w') := by
 have h' := h
 obtain ⟨a, n, cap, HN, rfl, h1, h2, h3, h4⟩ := h.open
 have eg := hd.enter
 have Hd := Lib.hid hd
 have Hn := Lib.hid HN.out
 rw [← Hn.out]
 clear h hd
 go_enter Tryz.func195, Tryz.ntmps195
 go_wp2_with fail
 go_loopw [10] (fun i wr => ∃ k : Nat, k ≤ n ∧ i = .int .i64 k ∧ Hid (scan err k = 0) ∧ Hid (I k wr)) (fun i _ => n - (intOf i).toNat)
 case atStart => exact ⟨0, by omega, rfl, rfl, h0⟩
 case round =>
  obtain ⟨k, hk, rfl, Hs, HI⟩ := hrel
  clear h0
  have hRw := Hd.out.below _ _ HI.out
  by_cases hlt : k < n
  ·obtain ⟨b, off, rfl, hb, k0, k1, k2⟩ := h4 (by omega)
   have x0 := k0 k wr hlt hRw
   have x1 := k1 k wr hlt hRw
   have x2 := k2 k wr hlt hRw
   obtain ⟨Q, hQ, hQ1, hy⟩ := cls_box wr #[.string (mv l k).name, .int .i64 (mv l k).old, .int .i64 (mv l k).new] 107
   have y0 := hy 0 _ rfl
   have y1 := hy 1 _ rfl
   have y2 := hy 2 _ rfl
   clear hy
   have Hc := Lib.hid (Hd.out.step k _ (by rw [← Hn.out]; exact hlt) Hs.out (Hd.out.next _ _ _ HI.out (hQ.below _ hQ1)))
   have z0 := y0 _ hQ1
   have z1 := y1 _ hQ1
   have z2 := y2 _ hQ1
   have hi1 : (0 : Int) ≤ (k : Int) := by omega
   have hi2 : (k : Int) < (n : Int) := by omega
   clear k0 k1 k2 h4 y0 y1 y2
   by_cases he : err k = 0
   ·have hq : (err k != 0) = false := by simpa using he
    have Hs2 := Lib.hid (show scan err (k + 1) = 0 from scan_next Hs.out he)
    have He := Lib.hid he
    clear he
    go_wp2_with fail
    refine Hc.out.mono ?_
    rintro e w' ⟨rfl, hb2, hI2⟩
    have HI2 := Lib.hid (hI2 He.out)
    clear hI2 hb2
    go_wp2_with fail
    go_roundw
    case rel => exact ⟨k + 1, by omega, by go_num, Hs2, HI2⟩
    case measure => simp [intOf]; omega
   ·have hq : (err k != 0) = true := by simpa using he
    have Hs2 := Lib.hid (show scan err n = err k from scan_hit Hs.out he hlt)
    have He := Lib.hid he
    clear he
    go_wp2_with fail
    refine Hc.out.mono ?_
    rintro e w' ⟨rfl, hb2, hI2⟩
    clear hI2
    go_wp2_with fail
    go_ret
    exact ⟨ret_int Hs2.out.symm, hb2, fun h => absurd (Hs2.out.symm.trans h) He.out⟩
  ·obtain rfl : k = n := by omega
   go_wp2_with fail
   go_ret
   exact ⟨ret_int Hs.out.symm, hRw, fun _ => HI.out⟩
def RetRefsE (w w' : World) (e : Ending) (l : List Rf) (c : Int) : Prop := ∃ v, e = .returned (.tuple #[v, .int .i64 c]) ∧ RefsV (fun b => w.heap.size ≤ b) w' v l ∧ Below w.heap.size w w'
set_option maxRecDepth 100000 in
theorem moves_does {l : List Rf} {us : List Mv} {objs : List Obj} {force : Bool} {ov : Value} (ha : Asc l) (hcm : ∀ r ∈ l, kindOf objs r.id = 3) (hR : Right objs) (hus : ∀ u ∈ us, I64 u.old ∧ I64 u.new ∧ u.name.size ≤ 140737488351232)
  (hl : l.length ≤ 400) (hn : us.length ≤ 200) (w0 : World) (ho : StoreV (fun b => b < w0.heap.size) w0 ov objs) (J : Nat) (hJ : w0.heap.size ≤ J) :
  DoesU 196 #[.pointer (some ⟨J, 0, none⟩)] us w0 (fun k x => MoverAt w0.heap.size J ov force x (movedL l us k) ∧ Below w0.heap.size w0 x) (movedErr l objs us force) where
 enter := fun _ _ => rfl
 below := fun k x h => h.2
 next := fun k x y h hb => ⟨h.1.below hb, below_next h.2 hb⟩
 step := fun k x hk hs hI => by
  have hj := move_any hI.1 (movedL_asc ha us k) (movedL_commits hcm k hs) hR (ho.low hI.2) (mv us k) (hus _ (mv_mem hk)) (by have := movedL_length l us k; omega) hJ
  refine hj.mono ?_
  rintro e w' ⟨rfl, h1, h2⟩
  have hb : Below w0.heap.size w0 w' := hI.2.trans h1
  exact ⟨rfl, hb, fun h => ⟨h2 h, hb⟩⟩
theorem moverAt_new {B : Nat} {w1 : World} {v ov : Value} {force : Bool} {l : List Rf} (h : OwnR B w1 v l) : MoverAt B w1.heap.size ov force (w1.alloc (.cells #[v, ov, .bool force] 216)) l :=
 ⟨v, h.below ((Below.refl _ _).alloc (Nat.le_refl _) _), fun e => by have := (h.block e).2; omega, heap_alloc_new w1 _⟩
set_option maxRecDepth 100000 in
set_option maxHeartbeats 4000000 in
theorem updRaw_any (l : List Rf) (objs : List Obj) (us : List Mv) (force : Bool) (lv ov uv : Value) (S S2 S3 : Nat → Prop) (w : World) (h : RefsV S w lv l) (ho : StoreV S2 w ov objs) (hu : MvsV S3 w uv us)
  (hk : RefsOk l objs) (hR : Right objs) (hul : us.length ≤ 100) :
  Calls Tryz.prog 139 #[lv, ov, uv, .bool force] w fun e w' => RetRefsE w w' e (movedR l objs us force) (movedE l objs us force) := by
 have hmf : ∀ (fn : Fn) (first cap : Array Value) (w : World), (Instr.makeFunc fn first cap).run Tryz.prog w = .ok (.func fn first cap) w := fun _ _ _ _ => rfl
 have Hcl := Lib.hid (cloneRefs_any l lv S w h)
 have HE := Lib.hid (fun J (hJ : w.heap.size ≤ J) x (hx : MoverAt w.heap.size J ov force x l ∧ Below w.heap.size w x) => eachU_any (moves_does (force := force) hk.asc (fun r hr => by obtain ⟨i, hi, rfl⟩ := mem_rf hr; exact hk.commit i hi) hR hu.2 (by have := hk.many; omega) (by omega) w ((ho.lt).weaken (fun b hb => hb.2)) J hJ) uv S3 hu hx)
 have HC := Lib.hid (fun v x S' (hx : RefsV S' x v (movedL l us us.length)) (hb : Below w.heap.size w x) => right_any (movedL l us us.length) objs v ov S' S2 x hx (ho.below hb) hR.rising)
 have HwE := Lib.hid (show movedE l objs us force = if scan (movedErr l objs us force) us.length = 0 then rightErr (movedL l us us.length) objs else scan (movedErr l objs us force) us.length from rfl)
 have HwL := Lib.hid (show movedR l objs us force = if movedE l objs us force = 0 then movedL l us us.length else [] from rfl)
 have hjl := movedL_length l us us.length
 have hm8 := hk.many
 have HJl := Lib.hid (show (movedL l us us.length).length * 24 ≤ 140737488351232 by omega)
 obtain ⟨⟨la, lc⟩, rfl⟩ := h.shape
 obtain ⟨⟨ua, uc⟩, rfl⟩ := hu.shape
 obtain ⟨oa, oc, rfl⟩ := ho.vshape
 clear h hu ho hjl hm8 hk hul
 generalize movedL l us us.length = jl at *
 generalize scan (movedErr l objs us force) us.length = se at *
 have h3 : (se = 0 ∧ rightErr jl objs = 0) ∨ (se = 0 ∧ rightErr jl objs ≠ 0) ∨ se ≠ 0 := by
  by_cases a : se = 0
  ·by_cases b : rightErr jl objs = 0
   ·exact .inl ⟨a, b⟩
   ·exact .inr (.inl ⟨a, b⟩)
  ·exact .inr (.inr a)
 rcases h3 with ⟨hs, hc⟩ | ⟨hs, hc⟩ | hs
 case' inl =>
  have hq : (se == 0) = true := by simpa using hs
  have hq2 : (rightErr jl objs != 0) = false := by simpa using hc
  rw [if_pos hs] at HwE
  have Hs := Lib.hid hs
  rw [HwL.out, HwE.out, if_pos hc, hc]
  clear hs hc
 case' inr.inl =>
  have hq : (se == 0) = true := by simpa using hs
  have hq2 : (rightErr jl objs != 0) = true := by simpa using hc
  rw [if_pos hs] at HwE
  have Hs := Lib.hid hs
  rw [HwL.out, HwE.out, if_neg hc]
  clear hs hc
 case' inr.inr =>
  have hq : (se == 0) = false := by simpa using hs
  have hq2 : (se != 0) = true := by simpa using hs
  rw [if_neg hs] at HwE
  rw [HwL.out, HwE.out, if_neg hs]
  clear hs
 all_goals
  go_enter Tryz.func139, Tryz.ntmps139
  go_wp2_with fail
  refine Hcl.out.mono ?_
  rintro e w1 ⟨v1, rfl, hg1, hb1⟩
  obtain ⟨va, vc, rfl⟩ := hg1.shape
  have hJ := moverAt_new (ov := .slice oa objs.length oc) (force := force) hg1
  have hb2 : Below w.heap.size w (w1.alloc (.cells #[.slice va l.length vc, .slice oa objs.length oc, .bool force] 216)) := below_next hb1 ((Below.refl _ _).alloc (Nat.le_refl _) _)
  have Hea := Lib.hid (HE.out w1.heap.size hb1.size _ ⟨hJ, hb2⟩)
  clear hJ hb2 hg1 hb1
  go_wp2_with fail
  refine Hea.out.mono ?_
  rintro e w3 ⟨rfl, hb3, hI3⟩
 ·have Hb3 := Lib.hid hb3
  clear hI3
  go_wp2_with fail
  go_ret2
  exact ⟨_, rfl, RefsV.nil _ _ _ _ (by omega), Hb3.out⟩
 ·obtain ⟨hJ3, hB3⟩ := hI3 Hs.out
  obtain ⟨v3, hG3, _, hc3⟩ := hJ3
  obtain ⟨a3, c3, rfl⟩ := hG3.shape
  have hst := hG3.refs HJl.out
  have j0 := block_cell (j := 0) hc3 rfl
  have Hck := Lib.hid (HC.out _ _ _ hst hB3)
  go_wp2_with fail
  refine Hck.out.mono ?_
  rintro e w4 ⟨rfl, hb4⟩
  have j4 := block_cell (j := 0) ((hb4.block _ (lt_of_block hc3)).trans hc3) rfl
  have Hend := Lib.hid (And.intro (hst.below hb4) (below_next hB3 hb4))
  go_wp2_with fail
  go_ret2
  exact ⟨_, rfl, RefsV.nil _ _ _ _ (by omega), Hend.out.2⟩
 ·obtain ⟨hJ3, hB3⟩ := hI3 Hs.out
  obtain ⟨v3, hG3, _, hc3⟩ := hJ3
  obtain ⟨a3, c3, rfl⟩ := hG3.shape
  have hst := hG3.refs HJl.out
  have j0 := block_cell (j := 0) hc3 rfl
  have Hck := Lib.hid (HC.out _ _ _ hst hB3)
  go_wp2_with fail
  refine Hck.out.mono ?_
  rintro e w4 ⟨rfl, hb4⟩
  have j4 := block_cell (j := 0) ((hb4.block _ (lt_of_block hc3)).trans hc3) rfl
  have Hend := Lib.hid (And.intro ((hst.below hb4).weaken fun _ h => h.1) (below_next hB3 hb4))
  go_wp2_with fail
  go_ret2
  exact ⟨_, rfl, Hend.out.1, Hend.out.2⟩
end Go.Proofs.YtjdgpgfiomnjkaaGreatDoor
namespace Go.Proofs.YtjdgpgfiomnjkaaGreatDoor
open Go.RowKit
set_option linter.unusedVariables false
set_option linter.unusedSimpArgs false
def sameRf (a b : Rf) : Bool := (a.name.toList == b.name.toList) && (a.id == b.id)
theorem sameRf_iff (a b : Rf) : sameRf a b = true ↔ a = b := by
 unfold sameRf
 rw [text_eq]
 simp only [Bool.and_eq_true, decide_eq_true_eq, beq_iff_eq]
 constructor
 ·rintro ⟨h1, h2⟩; cases a; cases b; simp_all
 ·rintro rfl; simp
theorem run_neq_rf (a b : Rf) (w : World) : (binOp .neq 62 (.agg #[.string a.name, .int .i64 a.id]) (.agg #[.string b.name, .int .i64 b.id])).run Tryz.prog w = .ok (.bool !sameRf a b) w := by
 have hS : Tryz.prog.underlying 62 = some (.struct (Tryz.prog.fieldsOf 62)) := by kernel_rfl
 have hp : Tryz.prog.stoodInHeld 62 = false := by kernel_rfl
 have u9 := Tryz.underlying9
 have u3 := Tryz.underlying3
 rw [run_neq_struct, show (10000 : Nat) = 9999 + 1 from rfl, run_equalIn_agg w 9999 62 _ _ hS hp]
 simp only [Program.fieldsOf, Tryz.underlying62]
 unfold sameRf
 go_simp
 by_cases h1 : a.name.toList = b.name.toList <;> by_cases h2 : a.id = b.id <;> simp [h1, h2]
def sameRefs (xs ys : List Rf) : Bool := decide (xs.length = ys.length) && (List.range xs.length).all fun k => sameRf (rf xs k) (rf ys k)
theorem sameRefs_iff (xs ys : List Rf) : sameRefs xs ys = true ↔ xs = ys := by
 unfold sameRefs
 simp only [Bool.and_eq_true, decide_eq_true_eq, List.all_eq_true, List.mem_range, sameRf_iff]
 constructor
 ·rintro ⟨h1, h2⟩
  apply List.ext_getElem h1
  intro i hi hi2
  have := h2 i hi
  rwa [rf_lt hi, rf_lt hi2] at this
 ·rintro rfl; exact ⟨rfl, fun _ _ => rfl⟩
theorem sameRefs_len {xs ys : List Rf} (h : xs.length ≠ ys.length) : sameRefs xs ys = false := by unfold sameRefs; simp [h]
theorem sameRefs_at {xs ys : List Rf} {k : Nat} (hk : k < xs.length) (h : sameRf (rf xs k) (rf ys k) = false) : sameRefs xs ys = false := by
 cases e : sameRefs xs ys
 ·rfl
 ·rw [sameRefs_iff] at e
  subst e
  rw [(sameRf_iff _ _).2 rfl] at h; cases h
theorem sameRefs_all {xs ys : List Rf} (hl : xs.length = ys.length) (h : ∀ k, k < xs.length → sameRf (rf xs k) (rf ys k) = true) : sameRefs xs ys = true := by
 unfold sameRefs
 simp only [Bool.and_eq_true, decide_eq_true_eq, List.all_eq_true, List.mem_range]
 exact ⟨hl, h⟩
set_option maxHeartbeats 2000000 in
theorem sameRefs_any (xs ys : List Rf) (v v' : Value) (S S' : Nat → Prop) (w : World) (h1 : RefsV S w v xs) (h2 : RefsV S' w v' ys) :
  Calls Tryz.prog 98 #[v, v'] w fun e w' => e = .returned (.bool (sameRefs xs ys)) ∧ Below w.heap.size w w' := by
 obtain ⟨a, n, cap, HN, rfl, hc1, hc2, hc8, hc, _⟩ := h1.open
 obtain ⟨a', n', cap', HN', rfl, hc1', hc2', hc8', hc', _⟩ := h2.open
 obtain ⟨R, hR, hR1, _⟩ := cls_plain w
 have hRb := hR.below
 have hRn := hR.drewN
 by_cases hl : n = n'
 ·subst hl
  have Hall := Lib.hid (sameRefs_all (xs := xs) (ys := ys) (by rw [← HN.out, ← HN'.out]))
  go_enter Tryz.func98, Tryz.ntmps98
  go_wp2
  go_loopw [5] (fun i wr => ∃ k : Nat, k ≤ n ∧ i = .int .i64 k ∧ Hid (∀ j, j < k → sameRf (rf xs j) (rf ys j) = true) ∧ In R wr) (fun i _ => n - (intOf i).toNat)
  case atStart => exact ⟨0, by omega, rfl, fun j hj => absurd hj (by omega), hR1⟩
  case round =>
   obtain ⟨k, hk, rfl, Hs, hRw⟩ := hrel
   clear hR1
   by_cases hlt : k < n
   ·obtain ⟨b, off, rfl, hb, k0, k1⟩ := hc (by omega)
    obtain ⟨b', off', rfl, hb', k0', k1'⟩ := hc' (by omega)
    have x0 : ∀ x, In R x → x.cell? ⟨b, off + k * 2, none⟩ = some (.string (rf xs k).name) := fun x hx => k0 k x hlt (hRb x hx)
    have x1 : ∀ x, In R x → x.cell? ⟨b, off + k * 2 + 1, none⟩ = some (.int .i64 (rf xs k).id) := fun x hx => k1 k x hlt (hRb x hx)
    have x0' : ∀ x, In R x → x.cell? ⟨b', off' + k * 2, none⟩ = some (.string (rf ys k).name) := fun x hx => k0' k x hlt (hRb x hx)
    have x1' : ∀ x, In R x → x.cell? ⟨b', off' + k * 2 + 1, none⟩ = some (.int .i64 (rf ys k).id) := fun x hx => k1' k x hlt (hRb x hx)
    clear hc hc' k0 k1 k0' k1'
    have hi1 : (0 : Int) ≤ (k : Int) := by omega
    have hi2 : (k : Int) < (n : Int) := by omega
    have hneq := run_neq_rf (rf xs k) (rf ys k)
    cases he : sameRf (rf xs k) (rf ys k)
    ·rw [he] at hneq
     have Hq := Lib.hid (sameRefs_at (xs := xs) (ys := ys) (k := k) (by rw [← HN.out]; exact hlt) he); clear he
     go_wp2_with fail
     go_quiet (fail)
     go_wp2
     go_ret
     exact ⟨by rw [Hq.out]; rfl, hRb _ (hRn _ _ hRw)⟩
    ·rw [he] at hneq
     have He := Lib.hid he; clear he
     go_wp2_with fail
     go_quiet (fail)
     go_wp2
     go_roundw
     case rel => exact ⟨k + 1, by omega, by go_num, all_next Hs.out He.out, hRn _ _ hRw⟩
     case measure => simp [intOf]; omega
   ·have Hk := Lib.hid (show sameRefs xs ys = true from Hall.out (fun j hj => Hs.out j (by have := HN.out; omega)))
    go_wp2
    go_ret
    exact ⟨by rw [Hk.out]; rfl, hRb _ hRw⟩
 ·have Hl := Lib.hid (sameRefs_len (xs := xs) (ys := ys) (by rw [← HN.out, ← HN'.out]; exact hl))
  go_enter Tryz.func98, Tryz.ntmps98
  go_wp2
  go_ret
  exact ⟨by rw [Hl.out]; rfl, hRb _ hR1⟩
end Go.Proofs.YtjdgpgfiomnjkaaGreatDoor
namespace Go.Proofs.YtjdgpgfiomnjkaaGreatDoor
open Go.RowKit
set_option linter.unusedVariables false
set_option linter.unusedSimpArgs false
end Go.Proofs.YtjdgpgfiomnjkaaGreatDoor
namespace Go.Proofs.YtjdgpgfiomnjkaaGreatDoor
open Go.RowKit
set_option linter.unusedVariables false
set_option linter.unusedSimpArgs false
end Go.Proofs.YtjdgpgfiomnjkaaGreatDoor
namespace Go.Proofs.YtjdgpgfiomnjkaaGreatDoor
open Go.RowKit
set_option linter.unusedVariables false
set_option linter.unusedSimpArgs false
end Go.Proofs.YtjdgpgfiomnjkaaGreatDoor
namespace Go.Proofs.YtjdgpgfiomnjkaaGreatDoor
open Go.RowKit
set_option linter.unusedVariables false
set_option linter.unusedSimpArgs false
end Go.Proofs.YtjdgpgfiomnjkaaGreatDoor
namespace Go.Proofs.YtjdgpgfiomnjkaaGreatDoor
open Go.RowKit
set_option linter.unusedVariables false
set_option linter.unusedSimpArgs false
def ObjAt (x : World) (o : Obj) (b off : Nat) (lv : Value) : Prop :=
 x.cell? ⟨b, off, none⟩ = some (.int .i64 o.id) ∧ x.cell? ⟨b, off + 1, none⟩ = some (.int .i64 o.kind) ∧ x.cell? ⟨b, off + 2, none⟩ = some lv ∧ x.cell? ⟨b, off + 3, none⟩ = some (.string o.text)
theorem ObjAt.below {x y : World} {o : Obj} {b off : Nat} {lv : Value} (h : ObjAt x o b off lv) (hb : Below x.heap.size x y) : ObjAt y o b off lv :=
 ⟨below_cell hb h.1, below_cell hb h.2.1, below_cell hb h.2.2.1, below_cell hb h.2.2.2⟩
end Go.Proofs.YtjdgpgfiomnjkaaGreatDoor
namespace Go.Proofs.YtjdgpgfiomnjkaaGreatDoor
open Go.RowKit
set_option linter.unusedVariables false
set_option linter.unusedSimpArgs false
end Go.Proofs.YtjdgpgfiomnjkaaGreatDoor
namespace Go.Proofs.YtjdgpgfiomnjkaaGreatDoor
open Go.RowKit
set_option linter.unusedVariables false
set_option linter.unusedSimpArgs false
structure Psh where
 objects : List Obj
 updates : List Mv
 force : Bool
structure Rep where
 store : List Obj
 refs : List Rf
 gen : Int
 phase : Int
 pend : Psh
def psh0 : Psh := ⟨[], [], false⟩
def rep0 : Rep := ⟨[], [], 0, 0, psh0⟩
def checkPsh (p : Psh) : Int := if 12 < p.objects.length then 2 else if eachE p.objects ≠ 0 then eachE p.objects else checkMvs p.updates
def tryE (r : Rep) (p : Psh) : Int := if addE r.store p.objects ≠ 0 then addE r.store p.objects else applyE r.refs (addL r.store p.objects) p.updates p.force
def tryL (r : Rep) (p : Psh) : List Obj := if tryE r p = 0 then addL r.store p.objects else []
def tryM (r : Rep) (p : Psh) : List Rf := if tryE r p = 0 then applyR r.refs (addL r.store p.objects) p.updates p.force else []
theorem cls_two (w : World) (cs ds : Array Value) (t u : TypeId) : ∃ R : World → Prop, Cls w R ∧ In R ((w.alloc (.cells cs t)).alloc (.cells ds u)) ∧
  (∀ j v, cs[j]? = some v → ∀ x, In R x → x.cell? ⟨w.heap.size, j, none⟩ = some v) ∧ (∀ j v, ds[j]? = some v → ∀ x, In R x → x.cell? ⟨w.heap.size + 1, j, none⟩ = some v) := by
 have hb : Below w.heap.size w ((w.alloc (.cells cs t)).alloc (.cells ds u)) := ((Below.refl _ _).alloc (Nat.le_refl _) _).alloc (by simp) _
 refine ⟨_, cls_of w _ (w.heap.size + 2) (by omega) (by simp) hb, Below.refl _ _, fun j v hv x hx => ?_, fun j v hv x hx => ?_⟩
 ·rw [Below.cell hx (p := ⟨w.heap.size, j, none⟩) (by simp)]
  rw [World.cell?_alloc_lt _ _ _ (by simp), World.cell?_alloc_at _ _ _ _ rfl]; exact hv
 ·rw [Below.cell hx (p := ⟨w.heap.size + 1, j, none⟩) (by simp)]
  rw [World.cell?_alloc_at _ _ _ _ (by simp)]; exact hv
theorem checkPsh_zero {p : Psh} (h : checkPsh p = 0) : p.objects.length ≤ 12 ∧ eachE p.objects = 0 ∧ checkMvs p.updates = 0 := by
 unfold checkPsh at h
 by_cases h1 : 12 < p.objects.length
 ·rw [if_pos h1] at h; exact absurd h (by decide)
 ·rw [if_neg h1] at h
  by_cases h2 : eachE p.objects ≠ 0
  ·rw [if_pos h2] at h; exact absurd h h2
  ·rw [if_neg h2] at h; exact ⟨by omega, by simpa using h2, h⟩
set_option maxRecDepth 100000 in
set_option maxHeartbeats 2000000 in
theorem pushCheck_any (p : Psh) (ov uv : Value) (S S' : Nat → Prop) (w : World) (ho : StoreV S w ov p.objects) (hu : MvsV S' w uv p.updates) :
  Calls Tryz.prog 58 #[.agg #[ov, uv, .bool p.force]] w fun e w' => e = .returned (.int .i64 (checkPsh p)) ∧ Below w.heap.size w w' := by
 have HE := Lib.hid (fun x (hx : Below w.heap.size w x) => each_any (checks_does p.objects x) ov S (ho.below hx) (Below.refl _ _))
 have HM := Lib.hid (fun x (hx : Below w.heap.size w x) => updCheck_any p.updates _ _ x (hu.below hx))
 have HW := Lib.hid (show checkPsh p = if 12 < p.objects.length then 2 else if eachE p.objects ≠ 0 then eachE p.objects else checkMvs p.updates from rfl)
 have hee : scan (fun k => checkObj (obj p.objects k)) p.objects.length = eachE p.objects := rfl
 rw [hee] at HE
 obtain ⟨oa, oc, rfl⟩ := ho.vshape
 obtain ⟨⟨ua, uc⟩, rfl⟩ := hu.shape
 obtain ⟨R, hR, hR1, hy⟩ := cls_box w #[.slice oa p.objects.length oc, .slice ua p.updates.length uc, .bool p.force] 26
 have y0 := hy 0 _ rfl
 have y1 := hy 1 _ rfl
 have hRb := hR.below
 have hRn := hR.next
 have y01 := y0 _ hR1
 clear hy ho hu hee
 generalize eachE p.objects = ee at *
 generalize checkMvs p.updates = mm at *
 by_cases h12 : 12 < p.objects.length
 ·have hd : decide ((12 : Int) < (p.objects.length : Int)) = true := by simp; omega
  rw [HW.out, if_pos h12]
  go_enter Tryz.func58, Tryz.ntmps58
  go_wp2_with fail
  go_ret
  exact ⟨rfl, hRb _ hR1⟩
 ·have hd : decide ((12 : Int) < (p.objects.length : Int)) = false := by simp; omega
  rw [HW.out, if_neg h12]
  have HE2 := Lib.hid (HE.out _ (hRb _ hR1))
  clear h12 HW HE
  by_cases he : ee = 0
  ·rw [if_neg (by simp [he])]
   rw [he] at HE2
   clear he
   go_enter Tryz.func58, Tryz.ntmps58
   go_wp2_with fail
   refine HE2.out.mono ?_
   rintro e w2 ⟨rfl, hb2, _⟩
   have hR2 := hRn _ _ hR1 hb2
   have y12 := y1 _ hR2
   clear hb2 hR1 y01
   go_wp2_with fail
   refine (HM.out _ (hRb _ hR2)).mono ?_
   rintro e w3 ⟨rfl, hb3⟩
   have hR3 := hRn _ _ hR2 hb3
   go_wp2_with fail
   go_ret
   exact ⟨rfl, hRb _ hR3⟩
  ·rw [if_pos he]
   have q : (ee != 0) = true := by simpa using he
   clear he
   go_enter Tryz.func58, Tryz.ntmps58
   go_wp2_with fail
   refine HE2.out.mono ?_
   rintro e w2 ⟨rfl, hb2, _⟩
   have hR2 := hRn _ _ hR1 hb2
   clear hb2 hR1 y01
   go_wp2_with fail
   go_ret
   exact ⟨rfl, hRb _ hR2⟩
def RetTry (w w' : World) (e : Ending) (l : List Obj) (m : List Rf) (c : Int) : Prop :=
 ∃ v u, e = .returned (.tuple #[v, u, .int .i64 c]) ∧ StoreV (fun _ => True) w' v l ∧ RefsV (fun _ => True) w' u m ∧ Below w.heap.size w w'
def RetTryP (P : Nat → Prop) (w w' : World) (e : Ending) (l : List Obj) (m : List Rf) (c : Int) : Prop :=
 ∃ v u, e = .returned (.tuple #[v, u, .int .i64 c]) ∧ StoreV P w' v l ∧ RefsV P w' u m ∧ Below w.heap.size w w'
theorem RetTryP.e {P : Nat → Prop} {w w' : World} {e : Ending} {l : List Obj} {m : List Rf} {c : Int} (h : RetTryP P w w' e l m c) : RetTry w w' e l m c :=
 let ⟨v, u, h1, h2, h3, h4⟩ := h; ⟨v, u, h1, h2.weaken fun _ _ => trivial, h3.weaken fun _ _ => trivial, h4⟩
theorem RetTryP.weaken {P P' : Nat → Prop} {w w' : World} {e : Ending} {l : List Obj} {m : List Rf} {c : Int} (h : RetTryP P w w' e l m c) (hP : ∀ b, P b → P' b) : RetTryP P' w w' e l m c :=
 let ⟨v, u, h1, h2, h3, h4⟩ := h; ⟨v, u, h1, h2.weaken hP, h3.weaken hP, h4⟩
theorem tryE_of {r : Rep} {p : Psh} (hp : checkMvs p.updates = 0) (ha : addE r.store p.objects = 0) : tryE r p = if rightErr r.refs (addL r.store p.objects) ≠ 0 then rightErr r.refs (addL r.store p.objects) else movedE r.refs (addL r.store p.objects) p.updates p.force := by
 have hc := (add_ok ha).whole
 have hr : checkRefs r.refs (addL r.store p.objects) = rightErr r.refs (addL r.store p.objects) := by unfold checkRefs; rw [if_neg (by simp [hc])]
 unfold tryE applyE
 rw [if_neg (by simp [ha]), hr]
 by_cases h : rightErr r.refs (addL r.store p.objects) = 0
 ·rw [if_neg (by simp [h]), if_neg (by simp [hp]), if_neg (by simp [h])]
 ·rw [if_pos h, if_pos h]
set_option maxRecDepth 100000 in
set_option maxHeartbeats 4000000 in
theorem pushRawF_any (r : Rep) (p : Psh) (sv rv ov uv ov2 uv2 : Value) (S S1 S2 S3 : Nat → Prop) (w : World) (hs : StoreV S w sv r.store) (hr : RefsV S1 w rv r.refs) (ho : StoreV S2 w ov p.objects) (hu : MvsV S3 w uv p.updates) (hp : checkMvs p.updates = 0)
  (h2 : (∃ a n c, ov2 = .slice a n c) ∧ ∃ a n c, uv2 = .slice a n c) :
  Calls Tryz.prog 75 #[.agg #[sv, rv, .int .i64 r.gen, .int .i64 r.phase, ov2, uv2, .bool r.pend.force], .agg #[ov, uv, .bool p.force]] w fun e w' => RetTryP (fun b => w.heap.size ≤ b) w w' e (tryL r p) (tryM r p) (tryE r p) := by
 have Ha := Lib.hid (fun x (hx : Below w.heap.size w x) => addF_any r.store p.objects _ _ _ _ x (hs.below hx) (ho.below hx))
 have Hr := Lib.hid (fun hR x v (hx : Below w.heap.size w x) (hv : StoreV (fun _ => True) x v (addL r.store p.objects)) => right_any r.refs (addL r.store p.objects) _ _ _ _ x (hr.below hx) hv hR)
 have Hm := Lib.hid (fun hk hR hul x v (hx : Below w.heap.size w x) (hv : StoreV (fun _ => True) x v (addL r.store p.objects)) => updRaw_any r.refs (addL r.store p.objects) p.updates p.force _ _ _ _ _ _ x (hr.below hx) hv (hu.below hx) hk hR hul)
 have HE := Lib.hid (show addE r.store p.objects ≠ 0 → tryE r p = addE r.store p.objects from fun h => by unfold tryE; rw [if_pos h])
 have HT := Lib.hid (tryE_of (r := r) hp)
 have HL := Lib.hid (show tryL r p = if tryE r p = 0 then addL r.store p.objects else [] from rfl)
 have HM := Lib.hid (show tryM r p = if tryE r p = 0 then applyR r.refs (addL r.store p.objects) p.updates p.force else [] from rfl)
 have HA := Lib.hid (show movedR r.refs (addL r.store p.objects) p.updates p.force = if movedE r.refs (addL r.store p.objects) p.updates p.force = 0 then movedL r.refs p.updates p.updates.length else [] from rfl)
 have HP := Lib.hid (show applyR r.refs (addL r.store p.objects) p.updates p.force = if applyE r.refs (addL r.store p.objects) p.updates p.force = 0 then movedL r.refs p.updates p.updates.length else [] from rfl)
 have HTa := Lib.hid (show addE r.store p.objects = 0 → tryE r p = applyE r.refs (addL r.store p.objects) p.updates p.force from fun h => by unfold tryE; rw [if_neg (by simp [h])])
 have h4 := (mvs_ok.1 hp).many
 obtain ⟨sa, sc, rfl⟩ := hs.vshape
 obtain ⟨⟨ra, rc⟩, rfl⟩ := hr.shape
 obtain ⟨oa, oc, rfl⟩ := ho.vshape
 obtain ⟨⟨ua, uc⟩, rfl⟩ := hu.shape
 obtain ⟨⟨oa2, on2, oc2, rfl⟩, ⟨ua2, un2, uc2, rfl⟩⟩ := h2
 obtain ⟨R, hR, hR1, hy, hz⟩ := cls_two w #[.slice sa r.store.length sc, .slice ra r.refs.length rc, .int .i64 r.gen, .int .i64 r.phase, .slice oa2 on2 oc2, .slice ua2 un2 uc2, .bool r.pend.force] #[.slice oa p.objects.length oc, .slice ua p.updates.length uc, .bool p.force] 28 26
 have y1 := hy 1 _ rfl
 have z1 := hz 1 _ rfl
 have z2 := hz 2 _ rfl
 have hRb := hR.below
 have hRn := hR.next
 clear hy hz hs hr ho hu
 have Ha1 := Lib.hid (Ha.out _ (hRb _ hR1))
 by_cases ha : addE r.store p.objects = 0
 case neg =>
  have HX := Lib.hid (HE.out ha)
  have HX1 := Lib.hid (show tryL r p = [] by rw [HL.out, HX.out, if_neg ha])
  have HX2 := Lib.hid (show tryM r p = [] by rw [HM.out, HX.out, if_neg ha])
  have q : (addE r.store p.objects != 0) = true := by simpa using ha
  rw [HX1.out, HX2.out, HX.out]
  clear ha y1 z1 z2
  go_enter Tryz.func75, Tryz.ntmps75
  go_wp2_with fail
  refine Ha1.out.mono ?_
  rintro e w2 ⟨v2, rfl, hv2, hb2⟩
  obtain ⟨a2, c2, rfl⟩ := hv2.vshape
  have hR2 := hRn _ _ hR1 hb2
  clear hv2 hb2
  go_wp2_with fail
  go_ret3
  exact ⟨_, _, rfl, StoreV.nil _ _ _ _ (by omega), RefsV.nil _ _ _ _ (by omega), hRb _ hR2⟩
 case pos =>
  have hc := (add_ok ha).whole
  have Hri := Lib.hid (right_of hc)
  have HT2 := Lib.hid (HT.out ha)
  have HTa2 := Lib.hid (HTa.out ha)
  rw [ha] at Ha1
  clear HE HTa HT ha hc
  generalize addL r.store p.objects = L at *
  by_cases hg : rightErr r.refs L = 0
  case neg =>
   have HX := Lib.hid (show tryE r p = rightErr r.refs L by rw [HT2.out, if_pos hg])
   have HX1 := Lib.hid (show tryL r p = [] by rw [HL.out, HX.out, if_neg hg])
   have HX2 := Lib.hid (show tryM r p = [] by rw [HM.out, HX.out, if_neg hg])
   have q : (rightErr r.refs L != 0) = true := by simpa using hg
   rw [HX1.out, HX2.out, HX.out]
   clear hg z1 z2
   go_enter Tryz.func75, Tryz.ntmps75
   go_wp2_with fail
   refine Ha1.out.mono ?_
   rintro e w2 ⟨v2, rfl, hv2, hb2⟩
   obtain ⟨a2, c2, rfl⟩ := hv2.vshape
   have hR2 := hRn _ _ hR1 hb2
   have y12 := y1 _ hR2
   have Hr2 := Lib.hid (Hr.out Hri.out.rising _ _ (hRb _ hR2) (hv2.weaken fun _ _ => trivial))
   clear hv2 hb2 hR1
   go_wp2_with fail
   refine Hr2.out.mono ?_
   rintro e w3 ⟨rfl, hb3⟩
   have hR3 := hRn _ _ hR2 hb3
   clear hb3
   go_wp2_with fail
   go_ret3
   exact ⟨_, _, rfl, StoreV.nil _ _ _ _ (by omega), RefsV.nil _ _ _ _ (by omega), hRb _ hR3⟩
  case pos =>
   have hok := rightErr_zero hg
   have HX := Lib.hid (show tryE r p = movedE r.refs L p.updates p.force by rw [HT2.out, if_neg (by simp [hg])])
   have HX1 := Lib.hid (show tryL r p = if movedE r.refs L p.updates p.force = 0 then L else [] by rw [HL.out, HX.out])
   have HX2 := Lib.hid (show tryM r p = movedR r.refs L p.updates p.force by
    rw [HM.out, HA.out, HP.out, ← HTa2.out, HX.out]; split <;> rfl)
   have Hm2 := Lib.hid (Hm.out hok Hri.out (by omega))
   rw [HX1.out, HX2.out, HX.out]
   rw [hg] at Hr
   clear hg hok HT2 HTa2 HX HX1 HX2 HL HM HA HP Hm
   by_cases hm : movedE r.refs L p.updates p.force = 0
   case neg =>
    have q : (movedE r.refs L p.updates p.force != 0) = true := by simpa using hm
    have Hnm := Lib.hid (show movedR r.refs L p.updates p.force = [] by unfold movedR; rw [if_neg hm])
    rw [if_neg hm]
    rw [Hnm.out] at Hm2 ⊢
    clear hm
    go_enter Tryz.func75, Tryz.ntmps75
    go_wp2_with fail
    refine Ha1.out.mono ?_
    rintro e w2 ⟨v2, rfl, hv2, hb2⟩
    obtain ⟨a2, c2, rfl⟩ := hv2.vshape
    have hR2 := hRn _ _ hR1 hb2
    have y12 := y1 _ hR2
    have Hr2 := Lib.hid (Hr.out Hri.out.rising _ _ (hRb _ hR2) (hv2.weaken fun _ _ => trivial))
    have HV2 := Lib.hid hv2
    clear hv2 hb2 hR1
    go_wp2_with fail
    refine Hr2.out.mono ?_
    rintro e w3 ⟨rfl, hb3⟩
    have hR3 := hRn _ _ hR2 hb3
    have y13 := y1 _ hR3
    have z13 := z1 _ hR3
    have z23 := z2 _ hR3
    have Hm3 := Lib.hid (Hm2.out _ _ (hRb _ hR3) ((HV2.out.below hb3).weaken fun _ _ => trivial))
    clear hb3 y12
    go_wp2_with fail
    refine Hm3.out.mono ?_
    rintro e w4 ⟨v4, rfl, hv4, hb4⟩
    obtain ⟨⟨p4, c4⟩, rfl⟩ := hv4.shape
    have hR4 := hRn _ _ hR3 hb4
    clear hv4 hb4
    go_wp2_with fail
    go_ret3
    exact ⟨_, _, rfl, StoreV.nil _ _ _ _ (by omega), RefsV.nil _ _ _ _ (by omega), hRb _ hR4⟩
   case pos =>
    rw [if_pos hm, hm]
    rw [hm] at Hm2
    clear hm
    go_enter Tryz.func75, Tryz.ntmps75
    go_wp2_with fail
    refine Ha1.out.mono ?_
    rintro e w2 ⟨v2, rfl, hv2, hb2⟩
    obtain ⟨a2, c2, rfl⟩ := hv2.vshape
    have hR2 := hRn _ _ hR1 hb2
    have y12 := y1 _ hR2
    have Hr2 := Lib.hid (Hr.out Hri.out.rising _ _ (hRb _ hR2) (hv2.weaken fun _ _ => trivial))
    have HV2 := Lib.hid hv2
    clear hv2 hb2 hR1
    go_wp2_with fail
    refine Hr2.out.mono ?_
    rintro e w3 ⟨rfl, hb3⟩
    have hR3 := hRn _ _ hR2 hb3
    have y13 := y1 _ hR3
    have z13 := z1 _ hR3
    have z23 := z2 _ hR3
    have Hm3 := Lib.hid (Hm2.out _ _ (hRb _ hR3) ((HV2.out.below hb3).weaken fun _ _ => trivial))
    have HV3 := Lib.hid (HV2.out.below hb3)
    clear hb3 y12
    go_wp2_with fail
    refine Hm3.out.mono ?_
    rintro e w4 ⟨v4, rfl, hv4, hb4⟩
    obtain ⟨⟨p4, c4⟩, rfl⟩ := hv4.shape
    have hR4 := hRn _ _ hR3 hb4
    have hs3 := (hRb _ hR3).size
    have HX := Lib.hid (And.intro ((HV3.out.below hb4).weaken (S' := fun b => w.heap.size ≤ b) (fun b hb => by simp only [World.size_alloc] at hb; omega)) (hv4.weaken (S' := fun b => w.heap.size ≤ b) (fun b hb => by omega)))
    clear hv4 hb4
    go_wp2_with fail
    go_ret3
    exact ⟨_, _, rfl, HX.out.1, HX.out.2, hRb _ hR4⟩
theorem pushRaw_any (r : Rep) (p : Psh) (sv rv ov uv ov2 uv2 : Value) (S S1 S2 S3 : Nat → Prop) (w : World) (hs : StoreV S w sv r.store) (hr : RefsV S1 w rv r.refs) (ho : StoreV S2 w ov p.objects) (hu : MvsV S3 w uv p.updates) (hp : checkMvs p.updates = 0)
  (h2 : (∃ a n c, ov2 = .slice a n c) ∧ ∃ a n c, uv2 = .slice a n c) :
  Calls Tryz.prog 75 #[.agg #[sv, rv, .int .i64 r.gen, .int .i64 r.phase, ov2, uv2, .bool r.pend.force], .agg #[ov, uv, .bool p.force]] w fun e w' => RetTry w w' e (tryL r p) (tryM r p) (tryE r p) :=
 (pushRawF_any r p sv rv ov uv ov2 uv2 S S1 S2 S3 w hs hr ho hu hp h2).mono fun _ _ h => h.e
end Go.Proofs.YtjdgpgfiomnjkaaGreatDoor
