
/- Walks: refs moved: put, move. -/
import Derived.Test.YtjdgpgfiomnjkaaGreatDoorQ11
import Derived.Test.YtjdgpgfiomnjkaaGreatDoorQ12
namespace Go.Proofs.YtjdgpgfiomnjkaaGreatDoor
open Go.RowKit
set_option linter.unusedVariables false
set_option linter.unusedSimpArgs false
set_option linter.unusedSectionVars false
variable [Ghost]
set_option maxRecDepth 100000 in
set_option maxHeartbeats 4000000 in
theorem putR_any {B J : Nat} {ov : Value} {force : Bool} {l : List Rf} {w : World} (hM : MoverAt B J ov force w l) (ha : Asc l) (r : Rf) (hrk : RfOk r) (hl : l.length ≤ 900) (hB : B ≤ J) :
  Calls Tryz.prog 238 #[.pointer (some ⟨J, 0, none⟩), .agg #[.string r.name, .int .i64 r.id]] w
   fun e w' => e = .returned (.tuple #[]) ∧ MoverAt B J ov force w' (putRf r l) ∧ Below B w w' := by
 obtain ⟨v, hG, hvJ, hcJ⟩ := hM
 obtain ⟨va, vc, rfl⟩ := hG.shape
 have hJw := lt_of_block hcJ
 obtain ⟨Q, hQ, hQ1, hy⟩ := cls_box w #[.string r.name, .int .i64 r.id] 62
 have y0 := hy 0 _ rfl
 have y1 := hy 1 _ rfl
 clear hy
 have hQb := hQ.below
 have hQn := hQ.next
 have hQg := cls_grown hQ
 have cJ := fun x (hx : In Q x) => block_cell (w := x) (j := 0) ((hQb x hx).block _ hJw |>.trans hcJ) rfl
 have Hs := Lib.hid (fun x (hx : In Q x) => searchR_any l _ _ r.name x ((hG.any (by omega)).below (hQb _ hx)) ha)
 have hlo := loR_le l r.name
 have HI := Lib.hid (ins_put l r)
 generalize loR l r.name = k at *
 have HG := Lib.hid hG
 have HcJ := Lib.hid hcJ
 have Hrk := Lib.hid hrk
 clear hG hcJ ha hrk
 go_enter Tryz.func238, Tryz.ntmps238
 go_wp2_with fail
 refine wp_region_quiet_below (by kernel_rfl) (by kernel_rfl) ?_
 repeat (first | go_big_quiet_skip | quiet_step (exact Calls.regrown_of (Hs.out _ (hQg _ _ _ hQ1))))
 refine wpQuiet_nil ?_
 intro _ hw'
 obtain ⟨⟨dq, osq⟩, hw''⟩ := hw'
 subst hw''
 have hQ2 := hQg _ dq osq hQ1
 generalize Go.Sort.grow (redrawn _ dq) osq = w5 at *
 go_wp2_with fail
 have hQ0 := hQ.drew _ hQ2
 refine any_start (by kernel_rfl) rfl ?_
 generalize w5.drew = x0 at *
 refine any_take 0 (.pointer (some ⟨J, 0, none⟩)) rfl (by kernel_rfl) (by kernel_rfl) (by kernel_rfl) (fun _ _ _ h => h) (by rfl) (fun w => ?_) ?_
 ·go_simp
 simp only [Act.put, List.setIfInBounds_toArray, List.set_cons_zero, List.set_cons_succ]
 refine any_take 1 (.pointer (some ⟨J, 0, none⟩)) rfl (by kernel_rfl) (by kernel_rfl) (by kernel_rfl) (fun _ _ _ h => h) (by rfl) (fun w => ?_) ?_
 ·go_simp
 simp only [Act.put, List.setIfInBounds_toArray, List.set_cons_zero, List.set_cons_succ]
 refine any_take 2 (.pointer (some ⟨J, 0, none⟩)) rfl (by kernel_rfl) (by kernel_rfl) (by kernel_rfl) (fun _ _ _ h => h) (by rfl) (fun w => ?_) ?_
 ·go_simp
 simp only [Act.put, List.setIfInBounds_toArray, List.set_cons_zero, List.set_cons_succ]
 refine any_take 3 (.pointer (some ⟨J, 0, none⟩)) rfl (by kernel_rfl) (by kernel_rfl) (by kernel_rfl) (fun _ _ _ h => h) (by rfl) (fun w => ?_) ?_
 ·go_simp
 simp only [Act.put, List.setIfInBounds_toArray, List.set_cons_zero, List.set_cons_succ]
 refine any_take 5 (.int .i64 (k : Int)) rfl (by kernel_rfl) (by kernel_rfl) (by kernel_rfl) (fun _ _ _ h => h) (by rfl) (fun w => ?_) ?_
 ·go_simp
 simp only [Act.put, List.setIfInBounds_toArray, List.set_cons_zero, List.set_cons_succ]
 have z0 := y0 _ hQ0
 have z1 := y1 _ hQ0
 have zJ := cJ _ hQ0
 have hin := insertRefs_any (i := k) (HG.out.below (hQb _ hQ0)) Hrk.out (show l.length ≤ 1000 by omega) (show B ≤ x0.heap.size by have := (hQb _ hQ0).size; omega) hlo rfl
 rw [HI.out] at hin
 have Hin := Lib.hid hin
 have HE := Lib.hid (fun w9 v' hG9 hu9 hat9 => mover_end (v' := v') hB hJw HG.out hvJ HcJ.out (hQb _ hQ0) (w9 := w9) (m := putRf r l) hG9 hu9 hat9)
 have HJ9 := Lib.hid (fun w9 (hu9 : Upd (fun b => (Value.slice va l.length vc).ownBlock = some b) x0 w9) => hu9.blk (((hQb _ hQ0).block _ hJw).trans HcJ.out) hvJ)
 have hzJ := fun (o : Go.Obj) => cJ _ (hQ.alloc _ o hQ0)
 have hz0 := fun (o : Go.Obj) => y0 _ (hQ.alloc _ o hQ0)
 have hz1 := fun (o : Go.Obj) => y1 _ (hQ.alloc _ o hQ0)
 clear hin hQ1 hQ2 Hs
 refine any_two 4 6 (by kernel_rfl) (op_do rfl (by rfl) (fun K hK => ?_)) (op_do rfl (by rfl) (fun K hK => ?_))
 ·go_wp2_with fail
  refine any_one 6 (by kernel_rfl) rfl (by rfl) (fun K hK => ?_)
  go_wp2_with fail
  refine any_one 7 (by kernel_rfl) rfl (by rfl) (fun K hK => ?_)
  go_wp2_with fail
  refine any_one 8 (by kernel_rfl) rfl (by rfl) (fun K hK => ?_)
  go_wp2_with fail
  refine Hin.out.mono ?_
  rintro e w9 ⟨v', rfl, hG9, hu9, hat9⟩
  have Hend := Lib.hid (HE.out _ _ hG9 hu9 hat9)
  have hJ9 := HJ9.out _ hu9
  have cJ9 := block_cell (j := 0) hJ9 rfl
  have fJ9 := block_free (j := 0) hJ9
  obtain ⟨⟨va9, vc9⟩, hv9⟩ : ∃ p : Option Addr × Nat, v' = .slice p.1 (putRf r l).length p.2 := by
   obtain ⟨a, c, h⟩ := hG9.shape
   exact ⟨(a, c), h⟩
  subst hv9
  clear hG9 hu9 hat9 hJ9
  go_wp2_with fail
  refine any_one 9 (by kernel_rfl) rfl (by rfl) (fun K hK => ?_)
  go_wp2_with fail
  refine any_one 10 (by kernel_rfl) rfl (by rfl) (fun K hK => ?_)
  go_wp2_with fail
  refine any_one 11 (by kernel_rfl) rfl (by rfl) (fun K hK => ?_)
  go_wp2_with fail
  refine any_done (by kernel_rfl) ?_
  go_wp2_with fail
  go_end0
  exact ⟨rfl, Hend.out⟩
 ·go_wp2_with fail
  refine any_two 4 7 (by kernel_rfl) (op_do rfl (by rfl) (fun K hK => ?_)) (op_do rfl (by rfl) (fun K hK => ?_))
  ·go_wp2_with fail
   refine any_one 7 (by kernel_rfl) rfl (by rfl) (fun K hK => ?_)
   go_wp2_with fail
   refine any_one 8 (by kernel_rfl) rfl (by rfl) (fun K hK => ?_)
   go_wp2_with fail
   refine Hin.out.mono ?_
   rintro e w9 ⟨v', rfl, hG9, hu9, hat9⟩
   have Hend := Lib.hid (HE.out _ _ hG9 hu9 hat9)
   have hJ9 := HJ9.out _ hu9
   have cJ9 := block_cell (j := 0) hJ9 rfl
   have fJ9 := block_free (j := 0) hJ9
   obtain ⟨⟨va9, vc9⟩, hv9⟩ : ∃ p : Option Addr × Nat, v' = .slice p.1 (putRf r l).length p.2 := by
    obtain ⟨a, c, h⟩ := hG9.shape
    exact ⟨(a, c), h⟩
   subst hv9
   clear hG9 hu9 hat9 hJ9
   go_wp2_with fail
   refine any_one 9 (by kernel_rfl) rfl (by rfl) (fun K hK => ?_)
   go_wp2_with fail
   refine any_one 10 (by kernel_rfl) rfl (by rfl) (fun K hK => ?_)
   go_wp2_with fail
   refine any_one 11 (by kernel_rfl) rfl (by rfl) (fun K hK => ?_)
   go_wp2_with fail
   refine any_done (by kernel_rfl) ?_
   go_wp2_with fail
   go_end0
   exact ⟨rfl, Hend.out⟩
  ·go_wp2_with fail
   refine any_one 4 (by kernel_rfl) rfl (by rfl) (fun K hK => ?_)
   go_wp2_with fail
   refine any_one 8 (by kernel_rfl) rfl (by rfl) (fun K hK => ?_)
   go_wp2_with fail
   refine Hin.out.mono ?_
   rintro e w9 ⟨v', rfl, hG9, hu9, hat9⟩
   have Hend := Lib.hid (HE.out _ _ hG9 hu9 hat9)
   have hJ9 := HJ9.out _ hu9
   have cJ9 := block_cell (j := 0) hJ9 rfl
   have fJ9 := block_free (j := 0) hJ9
   obtain ⟨⟨va9, vc9⟩, hv9⟩ : ∃ p : Option Addr × Nat, v' = .slice p.1 (putRf r l).length p.2 := by
    obtain ⟨a, c, h⟩ := hG9.shape
    exact ⟨(a, c), h⟩
   subst hv9
   clear hG9 hu9 hat9 hJ9
   go_wp2_with fail
   refine any_one 9 (by kernel_rfl) rfl (by rfl) (fun K hK => ?_)
   go_wp2_with fail
   refine any_one 10 (by kernel_rfl) rfl (by rfl) (fun K hK => ?_)
   go_wp2_with fail
   refine any_one 11 (by kernel_rfl) rfl (by rfl) (fun K hK => ?_)
   go_wp2_with fail
   refine any_done (by kernel_rfl) ?_
   go_wp2_with fail
   go_end0
   exact ⟨rfl, Hend.out⟩
theorem StoreV.low {B : Nat} {w w' : World} {v : Value} {l : List Obj} (h : StoreV (fun b => b < B) w v l) (hb : Below B w w') : StoreV (fun b => b < B) w' v l :=
 h.same fun b hS => hb.block b hS
theorem kind_id {objs : List Obj} (hR : Right objs) {id : Int} (h : kindOf objs id ≠ 0) : id ≠ 0 := by
 intro e
 subst e
 unfold kindOf at h
 cases hf : objs.find? (fun o => o.id == 0) with
 | none => rw [hf] at h; exact h rfl
 | some o =>
  have h1 := List.find?_some hf
  obtain ⟨i, hi, rfl⟩ := mem_obj (List.mem_of_find?_eq_some hf)
  have h2 := checkObj_ok (hR.each i hi)
  have h3 : (obj objs i).id = 0 := by simpa using h1
  omega
theorem moveErr_state {l : List Rf} {objs : List Obj} {u : Mv} {force : Bool} (h : idOf l u.name ≠ u.old) : moveErr l objs u force = 4 := by unfold moveErr; rw [if_pos h]
theorem moveErr_gone {l : List Rf} {objs : List Obj} {u : Mv} {force : Bool} (h : idOf l u.name = u.old) (hn : u.new = 0) : moveErr l objs u force = 0 := by unfold moveErr; rw [if_neg (by simp [h]), if_pos hn]
theorem moveErr_commit {l : List Rf} {objs : List Obj} {u : Mv} {force : Bool} (h : idOf l u.name = u.old) (hn : u.new ≠ 0) (hc : commitErr objs u.new ≠ 0) : moveErr l objs u force = commitErr objs u.new := by unfold moveErr; rw [if_neg (by simp [h]), if_neg hn, if_pos hc]
theorem moveErr_behind {l : List Rf} {objs : List Obj} {u : Mv} {force : Bool} (h : idOf l u.name = u.old) (hn : u.new ≠ 0) (hc : commitErr objs u.new = 0) (hb : u.old ≠ 0 ∧ force = false ∧ behindB objs u.old u.new = false) : moveErr l objs u force = 4 := by
 unfold moveErr; rw [if_neg (by simp [h]), if_neg hn, if_neg (by simp [hc]), if_pos hb]
theorem moveErr_ok {l : List Rf} {objs : List Obj} {u : Mv} {force : Bool} (h : idOf l u.name = u.old) (hn : u.new ≠ 0) (hc : commitErr objs u.new = 0) (hb : ¬ (u.old ≠ 0 ∧ force = false ∧ behindB objs u.old u.new = false)) : moveErr l objs u force = 0 := by
 unfold moveErr; rw [if_neg (by simp [h]), if_neg hn, if_neg (by simp [hc]), if_neg hb]
set_option maxRecDepth 100000 in
set_option maxHeartbeats 8000000 in
theorem move_any {B J : Nat} {ov : Value} {force : Bool} {l : List Rf} {objs : List Obj} {w : World} (hM : MoverAt B J ov force w l) (ha : Asc l) (hcm : ∀ r ∈ l, kindOf objs r.id = 3) (hR : Right objs) (ho : StoreV (fun b => b < B) w ov objs)
  (u : Mv) (hu : I64 u.old ∧ I64 u.new ∧ u.name.size ≤ 140737488351232) (hl : l.length ≤ 800) (hB : B ≤ J) :
  Calls Tryz.prog 196 #[.pointer (some ⟨J, 0, none⟩), .agg #[.string u.name, .int .i64 u.old, .int .i64 u.new]] w
   fun e w' => e = .returned (.int .i64 (moveErr l objs u force)) ∧ Below B w w' ∧ (moveErr l objs u force = 0 → MoverAt B J ov force w' (setRf l u.name u.new)) := by
 have hM0 := hM
 obtain ⟨v, hG, hvJ, hcJ⟩ := hM
 obtain ⟨va, vc, rfl⟩ := hG.shape
 obtain ⟨oa, oc, rfl⟩ := ho.vshape
 have hJw := lt_of_block hcJ
 obtain ⟨Q, hQ, hQ1, hy⟩ := cls_box w #[.string u.name, .int .i64 u.old, .int .i64 u.new] 107
 have y0 := hy 0 _ rfl
 have y1 := hy 1 _ rfl
 have y2 := hy 2 _ rfl
 clear hy
 have hQb := hQ.below
 have hQn := hQ.next
 have hQg := cls_grown hQ
 have cJ := fun x (hx : In Q x) => block_cell (w := x) (j := 0) ((hQb x hx).block _ hJw |>.trans hcJ) rfl
 have cJ1 := fun x (hx : In Q x) => block_cell (w := x) (j := 1) ((hQb x hx).block _ hJw |>.trans hcJ) rfl
 have cJ2 := fun x (hx : In Q x) => block_cell (w := x) (j := 2) ((hQb x hx).block _ hJw |>.trans hcJ) rfl
 have hrv := hG.any (by omega)
 have Hf := Lib.hid (fun x (hx : In Q x) => find_any l _ _ u.name x (hrv.below (hQb _ hx)))
 have Hlow := Lib.hid (fun x (hx : In Q x) => (hQb x hx).mono (show B ≤ w.heap.size by omega))
 have Hco := Lib.hid (fun x (hx : In Q x) => refsCommit_any objs _ _ u.new x (ho.below (hQb _ hx)) hR.rising)
 have HME := Lib.hid (fun w9 v' xo (hxo : In Q xo) m hG9 hu9 hat9 => mover_end (v' := v') (xo := xo) (w9 := w9) (m := m) hB hJw hG hvJ hcJ (hQb _ hxo) hG9 hu9 hat9)
 have HG := Lib.hid hG
 have HM := Lib.hid (fun x (hx : In Q x) => hM0.below (hQb x hx))
 have HJ9 := Lib.hid (fun xo w9 (hxo : In Q xo) (hu9 : Upd (fun b => (Value.slice va l.length vc).ownBlock = some b) xo w9) => hu9.blk (((hQb _ hxo).block _ hJw).trans hcJ) hvJ)
 have Hrk := Lib.hid (show RfOk ⟨u.name, u.new⟩ from ⟨hu.2.1, hu.2.2⟩)
 have Hid0 := Lib.hid (show idOf l u.name = if findRf l u.name = -1 then 0 else (rf l (findRf l u.name).toNat).id from rfl)
 have Hha := Lib.hid ha
 clear hM0
 by_cases hf : findRf l u.name = -1
 ·have Hi0 := Lib.hid (show idOf l u.name = 0 by rw [Hid0.out, if_pos hf])
  have HKN := Lib.hid (keep_none hf)
  have x1 : True := trivial
  rw [hf] at Hf
  clear hf hcm
  by_cases hs : (0 : Int) = u.old
  case neg =>
   have HE := Lib.hid (moveErr_state (objs := objs) (force := force) (show idOf l u.name ≠ u.old by rw [Hi0.out]; exact hs))
   have HNZ := Lib.hid (show (4 : Int) ≠ 0 by decide)
   have q1 : ((0 : Int) != u.old) = true := by simpa using hs
   clear hs
   go_enter Tryz.func196, Tryz.ntmps196
   go_wp2_with fail
   refine wp_region_quiet_below (by kernel_rfl) (by kernel_rfl) ?_
   repeat (first | go_big_quiet_skip | quiet_step (exact Calls.regrown_of (Hf.out _ (hQg _ _ _ hQ1))))
   refine wpQuiet_nil ?_
   intro _ hw'
   obtain ⟨⟨dq, osq⟩, hw''⟩ := hw'
   subst hw''
   have hQ2 := hQg _ dq osq hQ1
   generalize Go.Sort.grow (redrawn _ dq) osq = w2 at *
   clear hQ1
   have a0 := y0 _ hQ2
   have a1 := y1 _ hQ2
   have a2 := y2 _ hQ2
   have j0 := cJ _ hQ2
   have j1 := cJ1 _ hQ2
   have j2 := cJ2 _ hQ2
   go_wp2_with fail
   go_ret
   exact ⟨ret_int HE.out.symm, Hlow.out _ hQ2, fun h => absurd (HE.out.symm.trans h) HNZ.out⟩
  case pos =>
   have HI := Lib.hid (Hi0.out.trans hs)
   have q1 : ((0 : Int) != u.old) = false := by simpa using hs
   have HO := Lib.hid hs
   clear hs
   by_cases hn : u.new = 0
   ·have HE := Lib.hid (moveErr_gone (objs := objs) (force := force) HI.out hn)
    have HS := Lib.hid (show setRf l u.name u.new = l by unfold setRf; rw [if_pos hn, HKN.out])
    have q2 : (u.new != 0) = false := by simpa using hn
    clear hn
    go_enter Tryz.func196, Tryz.ntmps196
    go_wp2_with fail
    refine wp_region_quiet_below (by kernel_rfl) (by kernel_rfl) ?_
    repeat (first | go_big_quiet_skip | quiet_step (exact Calls.regrown_of (Hf.out _ (hQg _ _ _ hQ1))))
    refine wpQuiet_nil ?_
    intro _ hw'
    obtain ⟨⟨dq, osq⟩, hw''⟩ := hw'
    subst hw''
    have hQ2 := hQg _ dq osq hQ1
    generalize Go.Sort.grow (redrawn _ dq) osq = w2 at *
    clear hQ1
    have a0 := y0 _ hQ2
    have a1 := y1 _ hQ2
    have a2 := y2 _ hQ2
    have j0 := cJ _ hQ2
    have j1 := cJ1 _ hQ2
    have j2 := cJ2 _ hQ2
    go_wp2_with fail
    go_ret
    exact ⟨ret_int HE.out.symm, Hlow.out _ hQ2, fun _ => by rw [HS.out]; exact HM.out _ hQ2⟩
   ·have q2 : (u.new != 0) = true := by simpa using hn
    by_cases hce : commitErr objs u.new = 0
    ·have HE := Lib.hid (moveErr_ok (force := force) HI.out hn hce (by rintro ⟨h, _⟩; exact h HO.out.symm))
     have HS := Lib.hid (show setRf l u.name u.new = putRf ⟨u.name, u.new⟩ l by unfold setRf; rw [if_neg hn, HKN.out])
     rw [hce] at Hco
     clear hce hn
     go_enter Tryz.func196, Tryz.ntmps196
     go_wp2_with fail
     refine wp_region_quiet_below (by kernel_rfl) (by kernel_rfl) ?_
     repeat (first | go_big_quiet_skip | quiet_step (exact Calls.regrown_of (Hf.out _ (hQg _ _ _ hQ1))))
     refine wpQuiet_nil ?_
     intro _ hw'
     obtain ⟨⟨dq, osq⟩, hw''⟩ := hw'
     subst hw''
     have hQ2 := hQg _ dq osq hQ1
     generalize Go.Sort.grow (redrawn _ dq) osq = w2 at *
     clear hQ1
     have a0 := y0 _ hQ2
     have a1 := y1 _ hQ2
     have a2 := y2 _ hQ2
     have j0 := cJ _ hQ2
     have j1 := cJ1 _ hQ2
     have j2 := cJ2 _ hQ2
     go_wp2_with fail
     clear a0 a1 a2 j0 j1 j2 x1
     refine wp_region_quiet_below (by kernel_rfl) (by kernel_rfl) ?_
     repeat (first | go_big_quiet_skip | quiet_step (exact Calls.regrown_of (Hco.out _ (hQg _ _ _ hQ2))))
     refine wpQuiet_nil ?_
     intro _ hw'
     obtain ⟨⟨dq3, osq3⟩, hw''⟩ := hw'
     subst hw''
     have hQ3 := hQg _ dq3 osq3 hQ2
     generalize Go.Sort.grow (redrawn _ dq3) osq3 = w3 at *
     clear hQ2
     have a0 := y0 _ hQ3
     have a1 := y1 _ hQ3
     have a2 := y2 _ hQ3
     have j0 := cJ _ hQ3
     have j1 := cJ1 _ hQ3
     have j2 := cJ2 _ hQ3
     go_wp2_with fail
     clear a0 a1 a2 j0 j1 j2
     refine wp_region_quiet_below (by kernel_rfl) (by kernel_rfl) ?_
     repeat (first | go_big_quiet_skip | quiet_step (fail))
     refine wpQuiet_nil ?_
     intro _ hw'
     obtain ⟨⟨dq4, osq4⟩, hw''⟩ := hw'
     subst hw''
     have hQ4 := hQg _ dq4 osq4 hQ3
     generalize Go.Sort.grow (redrawn _ dq4) osq4 = w4 at *
     clear hQ3
     have a0 := y0 _ hQ4
     have a1 := y1 _ hQ4
     have a2 := y2 _ hQ4
     have j0 := cJ _ hQ4
     have j1 := cJ1 _ hQ4
     have j2 := cJ2 _ hQ4
     go_wp2_with fail
     have Hput := Lib.hid (putR_any (HM.out _ hQ4) Hha.out ⟨u.name, u.new⟩ Hrk.out (by omega) hB)
     refine Hput.out.mono ?_
     rintro e w10 ⟨rfl, hM10, hb10⟩
     have HX := Lib.hid (And.intro ((Hlow.out _ hQ4).trans hb10) hM10)
     go_wp2_with fail
     go_ret
     exact ⟨ret_int HE.out.symm, HX.out.1, fun _ => by rw [HS.out]; exact HX.out.2⟩
    ·have HE := Lib.hid (moveErr_commit (force := force) HI.out hn hce)
     have HNZ := Lib.hid hce
     have q3 : (commitErr objs u.new != 0) = true := by simpa using hce
     clear hce hn
     go_enter Tryz.func196, Tryz.ntmps196
     go_wp2_with fail
     refine wp_region_quiet_below (by kernel_rfl) (by kernel_rfl) ?_
     repeat (first | go_big_quiet_skip | quiet_step (exact Calls.regrown_of (Hf.out _ (hQg _ _ _ hQ1))))
     refine wpQuiet_nil ?_
     intro _ hw'
     obtain ⟨⟨dq, osq⟩, hw''⟩ := hw'
     subst hw''
     have hQ2 := hQg _ dq osq hQ1
     generalize Go.Sort.grow (redrawn _ dq) osq = w2 at *
     clear hQ1
     have a0 := y0 _ hQ2
     have a1 := y1 _ hQ2
     have a2 := y2 _ hQ2
     have j0 := cJ _ hQ2
     have j1 := cJ1 _ hQ2
     have j2 := cJ2 _ hQ2
     go_wp2_with fail
     clear a0 a1 a2 j0 j1 j2 x1
     refine wp_region_quiet_below (by kernel_rfl) (by kernel_rfl) ?_
     repeat (first | go_big_quiet_skip | quiet_step (exact Calls.regrown_of (Hco.out _ (hQg _ _ _ hQ2))))
     refine wpQuiet_nil ?_
     intro _ hw'
     obtain ⟨⟨dq3, osq3⟩, hw''⟩ := hw'
     subst hw''
     have hQ3 := hQg _ dq3 osq3 hQ2
     generalize Go.Sort.grow (redrawn _ dq3) osq3 = w3 at *
     clear hQ2
     have a0 := y0 _ hQ3
     have a1 := y1 _ hQ3
     have a2 := y2 _ hQ3
     have j0 := cJ _ hQ3
     have j1 := cJ1 _ hQ3
     have j2 := cJ2 _ hQ3
     go_wp2_with fail
     go_ret
     exact ⟨ret_int HE.out.symm, Hlow.out _ hQ3, fun h => absurd (HE.out.symm.trans h) HNZ.out⟩
 ·obtain ⟨k, hk, hfk, hkn⟩ := find_some hf
  have Hi0 := Lib.hid (show idOf l u.name = (rf l k).id by rw [Hid0.out, if_neg hf, hfk]; rfl)
  have HKW := Lib.hid (without_keep ha hk hkn)
  have hk3 := hcm _ (rf_mem hk)
  have Hwn := Lib.hid (kind_id hR (show kindOf objs (rf l k).id ≠ 0 by rw [hk3]; decide))
  have Hk3 := Lib.hid hk3
  have qw : ((rf l k).id != 0) = true := by simpa using Hwn.out
  rw [hfk] at Hf
  obtain ⟨a6, n6, c6, HN6, e6, h61, h62, h63, h64, h65⟩ := hrv.open
  cases e6
  obtain ⟨b6, off6, rfl, hb6, k0, k1⟩ := h64 (by omega)
  have cx := fun x (hx : In Q x) => k1 k x hk (hQb x hx)
  have hi1 : (0 : Int) ≤ (k : Int) := by omega
  have hi2 : (k : Int) < (l.length : Int) := by omega
  have hwk := wrap_in (n := (k : Int) + 1) (by omega)
  clear hf hfk hkn hcm hk3 k0 k1 h64 h65 hrv
  by_cases hs : (rf l k).id = u.old
  case neg =>
   have HE := Lib.hid (moveErr_state (objs := objs) (force := force) (show idOf l u.name ≠ u.old by rw [Hi0.out]; exact hs))
   have HNZ := Lib.hid (show (4 : Int) ≠ 0 by decide)
   have q1 : ((rf l k).id != u.old) = true := by simpa using hs
   clear hs
   go_enter Tryz.func196, Tryz.ntmps196
   go_wp2_with fail
   refine wp_region_quiet_below (by kernel_rfl) (by kernel_rfl) ?_
   repeat (first | go_big_quiet_skip | quiet_step (exact Calls.regrown_of (Hf.out _ (hQg _ _ _ hQ1))))
   refine wpQuiet_nil ?_
   intro _ hw'
   obtain ⟨⟨dq, osq⟩, hw''⟩ := hw'
   subst hw''
   have hQ2 := hQg _ dq osq hQ1
   generalize Go.Sort.grow (redrawn _ dq) osq = w2 at *
   clear hQ1
   have a0 := y0 _ hQ2
   have a1 := y1 _ hQ2
   have a2 := y2 _ hQ2
   have j0 := cJ _ hQ2
   have j1 := cJ1 _ hQ2
   have j2 := cJ2 _ hQ2
   have x1 := cx _ hQ2
   go_wp2_with fail
   go_ret
   exact ⟨ret_int HE.out.symm, Hlow.out _ hQ2, fun h => absurd (HE.out.symm.trans h) HNZ.out⟩
  case pos =>
   have HI := Lib.hid (Hi0.out.trans hs)
   have q1 : ((rf l k).id != u.old) = false := by simpa using hs
   have HO := Lib.hid hs
   have Hhas := Lib.hid (fun (h3 : kindOf objs u.new = 3) x (hx : In Q x) => has_any objs (rf l k).id u.new _ _ x (ho.below (hQb _ hx)) hR (by rw [Hk3.out]; decide) h3 hu.2.1)
   clear hs
   by_cases hn : u.new = 0
   ·have HE := Lib.hid (moveErr_gone (objs := objs) (force := force) HI.out hn)
    have HS := Lib.hid (show setRf l u.name u.new = keepRf l u.name by unfold setRf; rw [if_pos hn])
    have q2 : (u.new != 0) = false := by simpa using hn
    clear hn
    go_enter Tryz.func196, Tryz.ntmps196
    go_wp2_with fail
    refine wp_region_quiet_below (by kernel_rfl) (by kernel_rfl) ?_
    repeat (first | go_big_quiet_skip | quiet_step (exact Calls.regrown_of (Hf.out _ (hQg _ _ _ hQ1))))
    refine wpQuiet_nil ?_
    intro _ hw'
    obtain ⟨⟨dq, osq⟩, hw''⟩ := hw'
    subst hw''
    have hQ2 := hQg _ dq osq hQ1
    generalize Go.Sort.grow (redrawn _ dq) osq = w2 at *
    clear hQ1
    have a0 := y0 _ hQ2
    have a1 := y1 _ hQ2
    have a2 := y2 _ hQ2
    have j0 := cJ _ hQ2
    have j1 := cJ1 _ hQ2
    have j2 := cJ2 _ hQ2
    have x1 := cx _ hQ2
    go_wp2_with fail
    have Hdel := Lib.hid (deleteRefs_any (i := k) (HG.out.below (hQb _ hQ2)) (by omega) hk)
    refine Hdel.out.mono ?_
    rintro e w9 ⟨v', rfl, hG9, hu9, hat9⟩
    rw [HKW.out] at hG9
    have HMd := Lib.hid (HME.out _ _ _ hQ2 _ hG9 hu9 (.inl hat9))
    have hJ9 := HJ9.out _ _ hQ2 hu9
    have cJ9 := block_cell (j := 0) hJ9 rfl
    have fJ9 := block_free (j := 0) hJ9
    obtain ⟨⟨va9, vc9⟩, hv9⟩ : ∃ p : Option Addr × Nat, v' = .slice p.1 (keepRf l u.name).length p.2 := by
     obtain ⟨a, c, h⟩ := hG9.shape
     exact ⟨(a, c), h⟩
    subst hv9
    have b0 := hu9.cell a0 (by intro e; have := (HG.out.block e).2; simp at this)
    have b1 := hu9.cell a1 (by intro e; have := (HG.out.block e).2; simp at this)
    have b2 := hu9.cell a2 (by intro e; have := (HG.out.block e).2; simp at this)
    have b0' := (World.cell?_setCell_other w9 ⟨J, 0, none⟩ ⟨w.heap.size, 0, none⟩ (.slice va9 (keepRf l u.name).length vc9) (by intro e; have := congrArg Addr.block e; simp at this; omega)).trans b0
    have b2' := (World.cell?_setCell_other w9 ⟨J, 0, none⟩ ⟨w.heap.size, 2, none⟩ (.slice va9 (keepRf l u.name).length vc9) (by intro e; have := congrArg Addr.block e; simp at this; omega)).trans b2
    clear hG9 hu9 hat9 hJ9 Hdel a0 a1 a2 j0 j1 j2
    go_wp2_with fail
    go_ret
    exact ⟨ret_int HE.out.symm, HMd.out.2, fun _ => by rw [HS.out]; exact HMd.out.1⟩
   ·have q2 : (u.new != 0) = true := by simpa using hn
    have HS := Lib.hid (show setRf l u.name u.new = putRf ⟨u.name, u.new⟩ (keepRf l u.name) by unfold setRf; rw [if_neg hn])
    by_cases hce : commitErr objs u.new = 0
    ·have Hhas3 := Lib.hid (Hhas.out (commitErr_zero.1 hce))
     rw [HO.out] at Hhas3
     cases force
     ·cases hbh : behindB objs u.old u.new
      ·have HE := Lib.hid (moveErr_behind (force := false) HI.out hn hce ⟨by rw [← HO.out]; exact Hwn.out, rfl, hbh⟩)
       have HNZ := Lib.hid (show (4 : Int) ≠ 0 by decide)
       rw [hbh, ← HO.out] at Hhas3
       rw [hce] at Hco
       clear hce hn hbh
       go_enter Tryz.func196, Tryz.ntmps196
       go_wp2_with fail
       refine wp_region_quiet_below (by kernel_rfl) (by kernel_rfl) ?_
       repeat (first | go_big_quiet_skip | quiet_step (exact Calls.regrown_of (Hf.out _ (hQg _ _ _ hQ1))))
       refine wpQuiet_nil ?_
       intro _ hw'
       obtain ⟨⟨dq, osq⟩, hw''⟩ := hw'
       subst hw''
       have hQ2 := hQg _ dq osq hQ1
       generalize Go.Sort.grow (redrawn _ dq) osq = w2 at *
       clear hQ1
       have a0 := y0 _ hQ2
       have a1 := y1 _ hQ2
       have a2 := y2 _ hQ2
       have j0 := cJ _ hQ2
       have j1 := cJ1 _ hQ2
       have j2 := cJ2 _ hQ2
       have x1 := cx _ hQ2
       go_wp2_with fail
       clear a0 a1 a2 j0 j1 j2 x1
       refine wp_region_quiet_below (by kernel_rfl) (by kernel_rfl) ?_
       repeat (first | go_big_quiet_skip | quiet_step (exact Calls.regrown_of (Hco.out _ (hQg _ _ _ hQ2))))
       refine wpQuiet_nil ?_
       intro _ hw'
       obtain ⟨⟨dq3, osq3⟩, hw''⟩ := hw'
       subst hw''
       have hQ3 := hQg _ dq3 osq3 hQ2
       generalize Go.Sort.grow (redrawn _ dq3) osq3 = w3 at *
       clear hQ2
       have a0 := y0 _ hQ3
       have a1 := y1 _ hQ3
       have a2 := y2 _ hQ3
       have j0 := cJ _ hQ3
       have j1 := cJ1 _ hQ3
       have j2 := cJ2 _ hQ3
       go_wp2_with fail
       clear a0 a1 a2 j0 j1 j2
       refine wp_region_quiet_below (by kernel_rfl) (by kernel_rfl) ?_
       repeat (first | go_big_quiet_skip | quiet_step (exact Calls.regrown_of (Hhas3.out _ (hQg _ _ _ hQ3))))
       refine wpQuiet_nil ?_
       intro _ hw'
       obtain ⟨⟨dq4, osq4⟩, hw''⟩ := hw'
       subst hw''
       have hQ4 := hQg _ dq4 osq4 hQ3
       generalize Go.Sort.grow (redrawn _ dq4) osq4 = w4 at *
       clear hQ3
       have a0 := y0 _ hQ4
       have a1 := y1 _ hQ4
       have a2 := y2 _ hQ4
       have j0 := cJ _ hQ4
       have j1 := cJ1 _ hQ4
       have j2 := cJ2 _ hQ4
       go_wp2_with fail
       go_ret
       exact ⟨ret_int HE.out.symm, Hlow.out _ hQ4, fun h => absurd (HE.out.symm.trans h) HNZ.out⟩
      ·have HE := Lib.hid (moveErr_ok (force := false) HI.out hn hce (by rintro ⟨_, _, h⟩; rw [hbh] at h; cases h))
       rw [hbh, ← HO.out] at Hhas3
       rw [hce] at Hco
       clear hce hn hbh
       go_enter Tryz.func196, Tryz.ntmps196
       go_wp2_with fail
       refine wp_region_quiet_below (by kernel_rfl) (by kernel_rfl) ?_
       repeat (first | go_big_quiet_skip | quiet_step (exact Calls.regrown_of (Hf.out _ (hQg _ _ _ hQ1))))
       refine wpQuiet_nil ?_
       intro _ hw'
       obtain ⟨⟨dq, osq⟩, hw''⟩ := hw'
       subst hw''
       have hQ2 := hQg _ dq osq hQ1
       generalize Go.Sort.grow (redrawn _ dq) osq = w2 at *
       clear hQ1
       have a0 := y0 _ hQ2
       have a1 := y1 _ hQ2
       have a2 := y2 _ hQ2
       have j0 := cJ _ hQ2
       have j1 := cJ1 _ hQ2
       have j2 := cJ2 _ hQ2
       have x1 := cx _ hQ2
       go_wp2_with fail
       clear a0 a1 a2 j0 j1 j2 x1
       refine wp_region_quiet_below (by kernel_rfl) (by kernel_rfl) ?_
       repeat (first | go_big_quiet_skip | quiet_step (exact Calls.regrown_of (Hco.out _ (hQg _ _ _ hQ2))))
       refine wpQuiet_nil ?_
       intro _ hw'
       obtain ⟨⟨dq3, osq3⟩, hw''⟩ := hw'
       subst hw''
       have hQ3 := hQg _ dq3 osq3 hQ2
       generalize Go.Sort.grow (redrawn _ dq3) osq3 = w3 at *
       clear hQ2
       have a0 := y0 _ hQ3
       have a1 := y1 _ hQ3
       have a2 := y2 _ hQ3
       have j0 := cJ _ hQ3
       have j1 := cJ1 _ hQ3
       have j2 := cJ2 _ hQ3
       go_wp2_with fail
       clear a0 a1 a2 j0 j1 j2
       refine wp_region_quiet_below (by kernel_rfl) (by kernel_rfl) ?_
       repeat (first | go_big_quiet_skip | quiet_step (exact Calls.regrown_of (Hhas3.out _ (hQg _ _ _ hQ3))))
       refine wpQuiet_nil ?_
       intro _ hw'
       obtain ⟨⟨dq4, osq4⟩, hw''⟩ := hw'
       subst hw''
       have hQ4 := hQg _ dq4 osq4 hQ3
       generalize Go.Sort.grow (redrawn _ dq4) osq4 = w4 at *
       clear hQ3
       have a0 := y0 _ hQ4
       have a1 := y1 _ hQ4
       have a2 := y2 _ hQ4
       have j0 := cJ _ hQ4
       have j1 := cJ1 _ hQ4
       have j2 := cJ2 _ hQ4
       go_wp2_with fail
       have Hdel := Lib.hid (deleteRefs_any (i := k) (HG.out.below (hQb _ hQ4)) (by omega) hk)
       refine Hdel.out.mono ?_
       rintro e w9 ⟨v', rfl, hG9, hu9, hat9⟩
       rw [HKW.out] at hG9
       have HMd := Lib.hid (HME.out _ _ _ hQ4 _ hG9 hu9 (.inl hat9))
       have hJ9 := HJ9.out _ _ hQ4 hu9
       have cJ9 := block_cell (j := 0) hJ9 rfl
       have fJ9 := block_free (j := 0) hJ9
       obtain ⟨⟨va9, vc9⟩, hv9⟩ : ∃ p : Option Addr × Nat, v' = .slice p.1 (keepRf l u.name).length p.2 := by
        obtain ⟨a, c, h⟩ := hG9.shape
        exact ⟨(a, c), h⟩
       subst hv9
       have b0 := hu9.cell a0 (by intro e; have := (HG.out.block e).2; simp at this)
       have b1 := hu9.cell a1 (by intro e; have := (HG.out.block e).2; simp at this)
       have b2 := hu9.cell a2 (by intro e; have := (HG.out.block e).2; simp at this)
       have b0' := (World.cell?_setCell_other w9 ⟨J, 0, none⟩ ⟨w.heap.size, 0, none⟩ (.slice va9 (keepRf l u.name).length vc9) (by intro e; have := congrArg Addr.block e; simp at this; omega)).trans b0
       have b2' := (World.cell?_setCell_other w9 ⟨J, 0, none⟩ ⟨w.heap.size, 2, none⟩ (.slice va9 (keepRf l u.name).length vc9) (by intro e; have := congrArg Addr.block e; simp at this; omega)).trans b2
       clear hG9 hu9 hat9 hJ9 Hdel a0 a1 a2 j0 j1 j2
       go_wp2_with fail
       have Hput := Lib.hid (putR_any HMd.out.1 (keep_asc Hha.out _) ⟨u.name, u.new⟩ Hrk.out (show (keepRf l u.name).length ≤ 900 by have := List.length_filter_le (fun r : Rf => !(r.name.toList == u.name.toList)) l; unfold keepRf; omega) hB)
       refine Hput.out.mono ?_
       rintro e w10 ⟨rfl, hM10, hb10⟩
       have HX := Lib.hid (And.intro (HMd.out.2.trans hb10) hM10)
       go_wp2_with fail
       go_ret
       exact ⟨ret_int HE.out.symm, HX.out.1, fun _ => by rw [HS.out]; exact HX.out.2⟩
     ·have HE := Lib.hid (moveErr_ok (force := true) HI.out hn hce (by rintro ⟨_, h, _⟩; cases h))
      rw [hce] at Hco
      clear hce hn
      go_enter Tryz.func196, Tryz.ntmps196
      go_wp2_with fail
      refine wp_region_quiet_below (by kernel_rfl) (by kernel_rfl) ?_
      repeat (first | go_big_quiet_skip | quiet_step (exact Calls.regrown_of (Hf.out _ (hQg _ _ _ hQ1))))
      refine wpQuiet_nil ?_
      intro _ hw'
      obtain ⟨⟨dq, osq⟩, hw''⟩ := hw'
      subst hw''
      have hQ2 := hQg _ dq osq hQ1
      generalize Go.Sort.grow (redrawn _ dq) osq = w2 at *
      clear hQ1
      have a0 := y0 _ hQ2
      have a1 := y1 _ hQ2
      have a2 := y2 _ hQ2
      have j0 := cJ _ hQ2
      have j1 := cJ1 _ hQ2
      have j2 := cJ2 _ hQ2
      have x1 := cx _ hQ2
      go_wp2_with fail
      clear a0 a1 a2 j0 j1 j2 x1
      refine wp_region_quiet_below (by kernel_rfl) (by kernel_rfl) ?_
      repeat (first | go_big_quiet_skip | quiet_step (exact Calls.regrown_of (Hco.out _ (hQg _ _ _ hQ2))))
      refine wpQuiet_nil ?_
      intro _ hw'
      obtain ⟨⟨dq3, osq3⟩, hw''⟩ := hw'
      subst hw''
      have hQ3 := hQg _ dq3 osq3 hQ2
      generalize Go.Sort.grow (redrawn _ dq3) osq3 = w3 at *
      clear hQ2
      have a0 := y0 _ hQ3
      have a1 := y1 _ hQ3
      have a2 := y2 _ hQ3
      have j0 := cJ _ hQ3
      have j1 := cJ1 _ hQ3
      have j2 := cJ2 _ hQ3
      go_wp2_with fail
      clear a0 a1 a2 j0 j1 j2
      refine wp_region_quiet_below (by kernel_rfl) (by kernel_rfl) ?_
      repeat (first | go_big_quiet_skip | quiet_step (fail))
      refine wpQuiet_nil ?_
      intro _ hw'
      obtain ⟨⟨dq4, osq4⟩, hw''⟩ := hw'
      subst hw''
      have hQ4 := hQg _ dq4 osq4 hQ3
      generalize Go.Sort.grow (redrawn _ dq4) osq4 = w4 at *
      clear hQ3
      have a0 := y0 _ hQ4
      have a1 := y1 _ hQ4
      have a2 := y2 _ hQ4
      have j0 := cJ _ hQ4
      have j1 := cJ1 _ hQ4
      have j2 := cJ2 _ hQ4
      go_wp2_with fail
      have Hdel := Lib.hid (deleteRefs_any (i := k) (HG.out.below (hQb _ hQ4)) (by omega) hk)
      refine Hdel.out.mono ?_
      rintro e w9 ⟨v', rfl, hG9, hu9, hat9⟩
      rw [HKW.out] at hG9
      have HMd := Lib.hid (HME.out _ _ _ hQ4 _ hG9 hu9 (.inl hat9))
      have hJ9 := HJ9.out _ _ hQ4 hu9
      have cJ9 := block_cell (j := 0) hJ9 rfl
      have fJ9 := block_free (j := 0) hJ9
      obtain ⟨⟨va9, vc9⟩, hv9⟩ : ∃ p : Option Addr × Nat, v' = .slice p.1 (keepRf l u.name).length p.2 := by
       obtain ⟨a, c, h⟩ := hG9.shape
       exact ⟨(a, c), h⟩
      subst hv9
      have b0 := hu9.cell a0 (by intro e; have := (HG.out.block e).2; simp at this)
      have b1 := hu9.cell a1 (by intro e; have := (HG.out.block e).2; simp at this)
      have b2 := hu9.cell a2 (by intro e; have := (HG.out.block e).2; simp at this)
      have b0' := (World.cell?_setCell_other w9 ⟨J, 0, none⟩ ⟨w.heap.size, 0, none⟩ (.slice va9 (keepRf l u.name).length vc9) (by intro e; have := congrArg Addr.block e; simp at this; omega)).trans b0
      have b2' := (World.cell?_setCell_other w9 ⟨J, 0, none⟩ ⟨w.heap.size, 2, none⟩ (.slice va9 (keepRf l u.name).length vc9) (by intro e; have := congrArg Addr.block e; simp at this; omega)).trans b2
      clear hG9 hu9 hat9 hJ9 Hdel a0 a1 a2 j0 j1 j2
      go_wp2_with fail
      have Hput := Lib.hid (putR_any HMd.out.1 (keep_asc Hha.out _) ⟨u.name, u.new⟩ Hrk.out (show (keepRf l u.name).length ≤ 900 by have := List.length_filter_le (fun r : Rf => !(r.name.toList == u.name.toList)) l; unfold keepRf; omega) hB)
      refine Hput.out.mono ?_
      rintro e w10 ⟨rfl, hM10, hb10⟩
      have HX := Lib.hid (And.intro (HMd.out.2.trans hb10) hM10)
      go_wp2_with fail
      go_ret
      exact ⟨ret_int HE.out.symm, HX.out.1, fun _ => by rw [HS.out]; exact HX.out.2⟩
    ·have HE := Lib.hid (moveErr_commit (force := force) HI.out hn hce)
     have HNZ := Lib.hid hce
     have q3 : (commitErr objs u.new != 0) = true := by simpa using hce
     clear hce hn
     go_enter Tryz.func196, Tryz.ntmps196
     go_wp2_with fail
     refine wp_region_quiet_below (by kernel_rfl) (by kernel_rfl) ?_
     repeat (first | go_big_quiet_skip | quiet_step (exact Calls.regrown_of (Hf.out _ (hQg _ _ _ hQ1))))
     refine wpQuiet_nil ?_
     intro _ hw'
     obtain ⟨⟨dq, osq⟩, hw''⟩ := hw'
     subst hw''
     have hQ2 := hQg _ dq osq hQ1
     generalize Go.Sort.grow (redrawn _ dq) osq = w2 at *
     clear hQ1
     have a0 := y0 _ hQ2
     have a1 := y1 _ hQ2
     have a2 := y2 _ hQ2
     have j0 := cJ _ hQ2
     have j1 := cJ1 _ hQ2
     have j2 := cJ2 _ hQ2
     have x1 := cx _ hQ2
     go_wp2_with fail
     clear a0 a1 a2 j0 j1 j2 x1
     refine wp_region_quiet_below (by kernel_rfl) (by kernel_rfl) ?_
     repeat (first | go_big_quiet_skip | quiet_step (exact Calls.regrown_of (Hco.out _ (hQg _ _ _ hQ2))))
     refine wpQuiet_nil ?_
     intro _ hw'
     obtain ⟨⟨dq3, osq3⟩, hw''⟩ := hw'
     subst hw''
     have hQ3 := hQg _ dq3 osq3 hQ2
     generalize Go.Sort.grow (redrawn _ dq3) osq3 = w3 at *
     clear hQ2
     have a0 := y0 _ hQ3
     have a1 := y1 _ hQ3
     have a2 := y2 _ hQ3
     have j0 := cJ _ hQ3
     have j1 := cJ1 _ hQ3
     have j2 := cJ2 _ hQ3
     go_wp2_with fail
     go_ret
     exact ⟨ret_int HE.out.symm, Hlow.out _ hQ3, fun h => absurd (HE.out.symm.trans h) HNZ.out⟩
end Go.Proofs.YtjdgpgfiomnjkaaGreatDoor
