
/- AddA: Join, Each, WithP, With, Add, Find. -/
import Derived.Test.YtjdgpgfiomnjkaaGreatDoorQ8
import Derived.Test.YtjdgpgfiomnjkaaGreatDoorQ2
import Derived.Test.YtjdgpgfiomnjkaaGreatDoorQ0
import Derived.Test.YtjdgpgfiomnjkaaGreatDoorQ3
import Derived.Test.YtjdgpgfiomnjkaaGreatDoorQ6
namespace Go.Proofs.YtjdgpgfiomnjkaaGreatDoor
open Go.RowKit
set_option linter.unusedVariables false
set_option linter.unusedSimpArgs false
set_option linter.unusedSectionVars false
variable [Ghost]
def joinE (l : List Obj) (o : Obj) : Int := if isAt l o.id = true ∧ sameObj (obj l (lo l o.id)) o = false then 6 else 0
def joinL (l : List Obj) (o : Obj) : List Obj := if isAt l o.id = true then l else ins l (lo l o.id) o
def JoinAt (B J : Nat) (w : World) (l : List Obj) : Prop :=
 ∃ v S, GathS S B w v l ∧ (∀ b, S b → b ≠ J ∧ B ≤ b) ∧ v.ownBlock ≠ some J ∧ w.heap[J]? = some (.cells #[v] 178 (0, 0))
theorem JoinAt.below {B J : Nat} {w w' : World} {l : List Obj} (h : JoinAt B J w l) (hb : Below w.heap.size w w') : JoinAt B J w' l := by
 obtain ⟨v, S, h1, h2, h3, h4⟩ := h
 exact ⟨v, S, h1.below hb, h2, h3, (hb.block _ (lt_of_block h4)).trans h4⟩
theorem join_end {B J : Nat} {w x0 xo w9 : World} {v v' : Value} {m : List Obj} {S : Nat → Prop} (hB : B ≤ J) (hJw : J < w.heap.size) (hSJ : ∀ b, S b → b ≠ J ∧ B ≤ b) (hvJ : v.ownBlock ≠ some J) (hcJ : w.heap[J]? = some (.cells #[v] 178 (0, 0)))
  (hb0 : Below w.heap.size w x0) (hb : Below w.heap.size w xo) (hvB : ∀ g, v.ownBlock = some g → B ≤ g) (hG : GathS (fun b => S b ∨ (x0.heap.size ≤ b ∧ b < xo.heap.size)) B w9 v' m) (hu : Upd (fun b => v.ownBlock = some b) xo w9) (hat : v'.ownBlock = v.ownBlock ∨ ∃ k, v'.ownBlock = some k ∧ xo.heap.size ≤ k) :
  JoinAt B J (w9.setCell ⟨J, 0, none⟩ v') m ∧ Below B w (w9.setCell ⟨J, 0, none⟩ v') := by
 have h0 := hb0.size
 have h1 := hb.size
 have hJ9 : w9.heap[J]? = some (.cells #[v] 178 (0, 0)) := hu.blk ((hb.block _ hJw).trans hcJ) hvJ
 have hu2 : Upd (fun b => b = J) w9 (w9.setCell ⟨J, 0, none⟩ v') := (Upd.refl (fun b => b = J) w9).setCell (p := ⟨J, 0, none⟩) (fun _ => rfl) _
 have hv' : v'.ownBlock ≠ some J := by
  rcases hat with h | ⟨k, h, hk⟩
  ·rw [h]; exact hvJ
  ·rw [h]; intro e; cases e; omega
 refine ⟨⟨v', _, hG.upd hu2 (fun b hb' e => ?_) (fun g hg e => hv' (by rw [hg, e])), fun b hb' => ?_, hv', block_setCell (j := 0) hJ9 v'⟩, ?_⟩
 ·rcases hb' with h | h
  ·exact (hSJ b h).1 e
  ·omega
 ·rcases hb' with h | h
  ·exact hSJ b h
  ·exact ⟨by omega, by omega⟩
 ·exact (hb.mono (by omega)).trans ((hu.below (by omega) hvB).trans (hu2.below (B := B) (by have := hu.size; omega) (fun b e => by omega)))
set_option maxRecDepth 100000 in
set_option maxHeartbeats 4000000 in
theorem join_any {B J : Nat} {l : List Obj} {w : World} (hJ : JoinAt B J w l) (hr : Rising l) (o : Obj) (lv : Value) (S2 : Nat → Prop) (ho : ObjIs S2 w o lv) (hl : l.length ≤ 900) (hB : B ≤ J) :
  Calls Tryz.prog 143 #[.pointer (some ⟨J, 0, none⟩), .agg #[.int .i64 o.id, .int .i64 o.kind, lv, .string o.text]] w
   fun e w' => e = .returned (.int .i64 (joinE l o)) ∧ JoinAt B J w' (joinL l o) ∧ Below B w w' := by
 have hJ' := hJ
 obtain ⟨v, S, hG, hSJ, hvJ, hcJ⟩ := hJ
 obtain ⟨va, vc, rfl⟩ := hG.gath.shape
 obtain ⟨⟨lp, lc⟩, rfl⟩ := ho.1.shape
 have hJw := lt_of_block hcJ
 have hst := hG.gath.store (by omega)
 obtain ⟨Q, hQ, hQ1, y0, y1, y2, y3⟩ := cls_box4 w (.int .i64 o.id) (.int .i64 o.kind) (.slice lp o.links.length lc) (.string o.text) 46
 have hQb := hQ.below
 have hQn := hQ.next
 have hQg := cls_grown hQ
 have cJ := fun x (hx : In Q x) => block_cell (w := x) (j := 0) ((hQb x hx).block _ hJw |>.trans hcJ) rfl
 have Hat := Lib.hid (fun x (hx : In Q x) => at_any l _ _ o.id x (hst.below (hQb _ hx)) hr)
 have hlo := lo_le l o.id
 cases hat : isAt l o.id
 ·have HjL := Lib.hid (show joinL l o = ins l (lo l o.id) o by unfold joinL; rw [if_neg (by simp [hat])])
  have HjE := Lib.hid (show joinE l o = 0 by unfold joinE; simp [hat])
  rw [HjL.out, HjE.out]
  rw [hat] at Hat
  generalize lo l o.id = k at *
  have Ho := Lib.hid ho
  have HG := Lib.hid hG
  have HSJ := Lib.hid hSJ
  have HcJ := Lib.hid hcJ
  clear hst hJ' hr ho hG hSJ hcJ
  go_enter Tryz.func143, Tryz.ntmps143
  go_wp2_with fail
  refine wp_region_quiet_below (by kernel_rfl) (by kernel_rfl) ?_
  repeat (quiet_step (exact Calls.regrown_of (Hat.out _ (hQg _ _ _ hQ1))))
  refine wpQuiet_nil ?_
  intro _ hw'
  obtain ⟨⟨dq, osq⟩, hw''⟩ := hw'
  subst hw''
  have hQ2 := hQg _ dq osq hQ1
  generalize Go.Sort.grow (redrawn _ dq) osq = w5 at *
  go_wp2_with fail
  have hQd := hQ.drew _ hQ2
  refine any_start (by kernel_rfl) rfl ?_
  generalize w5.drew = x0 at *
  refine any_take 0 (.pointer (some ⟨J, 0, none⟩)) rfl (by kernel_rfl) (by kernel_rfl) (by kernel_rfl) (fun _ _ _ h => h) (by rfl) (fun w => ?_) ?_
  ·go_simp
  simp only [Act.put, List.setIfInBounds_toArray, List.set_cons_zero, List.set_cons_succ]
  refine any_take 1 (.pointer (some ⟨J, 0, none⟩)) rfl (by kernel_rfl) (by kernel_rfl) (by kernel_rfl) (fun _ _ _ h => h) (by rfl) (fun w => ?_) ?_
  ·go_simp
  simp only [Act.put, List.setIfInBounds_toArray, List.set_cons_zero, List.set_cons_succ]
  refine any_take 2 (.pointer (some ⟨J, 0, none⟩)) rfl (by kernel_rfl) (by kernel_rfl) (by kernel_rfl) (fun _ _ _ h => h) (by rfl) (fun w => ?_) ?_
  ·go_simp
  simp only [Act.put, List.setIfInBounds_toArray, List.set_cons_zero, List.set_cons_succ]
  refine any_take 3 (.pointer (some ⟨J, 0, none⟩)) rfl (by kernel_rfl) (by kernel_rfl) (by kernel_rfl) (fun _ _ _ h => h) (by rfl) (fun w => ?_) ?_
  ·go_simp
  simp only [Act.put, List.setIfInBounds_toArray, List.set_cons_zero, List.set_cons_succ]
  refine any_take 5 (.int .i64 (k : Int)) rfl (by kernel_rfl) (by kernel_rfl) (by kernel_rfl) (fun _ _ _ h => h) (by rfl) (fun w => ?_) ?_
  ·go_simp
  simp only [Act.put, List.setIfInBounds_toArray, List.set_cons_zero, List.set_cons_succ]
  have HQn := Lib.hid hQn
  have HQa := Lib.hid hQ.alloc
  have hQ0 := hQd
  clear hQd
  have z0 := y0 _ hQ0
  have z1 := y1 _ hQ0
  have z2 := y2 _ hQ0
  have z3 := y3 _ hQ0
  have zJ := cJ _ hQ0
  have hown := own_any o _ S2 x0 (Ho.out.below (hQb _ hQ0))
  refine any_two 4 6 (by kernel_rfl) (op_do rfl (by rfl) (fun K hK => ?_)) (op_do rfl (by rfl) (fun K hK => ?_))
  ·go_wp2_with fail
   refine any_one 6 (by kernel_rfl) rfl (by rfl) (fun K hK => ?_)
   go_wp2_with fail
   refine any_one 7 (by kernel_rfl) rfl (by rfl) (fun K hK => ?_)
   go_wp2_with fail
   refine hown.mono ?_
   rintro e xo ⟨lo, rfl, hoo, hbo⟩
   obtain ⟨⟨lop, loc⟩, rfl⟩ := hoo.1.shape
   have hQo := HQn.out _ _ hQ0 hbo
   have zJo := cJ _ hQo
   have zJo2 := cJ _ (HQa.out _ (.cells #[.int .i64 o.id, .int .i64 o.kind, .slice lop o.links.length loc, .string o.text] 46) hQo)
   go_wp2_with fail
   refine any_one 8 (by kernel_rfl) rfl (by rfl) (fun K hK => ?_)
   go_wp2_with fail
   have hin := insert_gath (HG.out.below (hQb _ hQo)) hoo.lt (fun b hb => ⟨hb.2, fun e => by have h1 := (HG.out.gath.block e).2; have h2 := (hQb _ hQ0).size; omega⟩) (show l.length ≤ 1000 by omega) (show B ≤ xo.heap.size by have := (hQb _ hQo).size; omega) hlo rfl
   refine any_one 9 (by kernel_rfl) rfl (by rfl) (fun K hK => ?_)
   go_wp2_with fail
   refine hin.mono ?_
   rintro e w9 ⟨v', rfl, hG9, hu9, hat9⟩
   have Hend := Lib.hid (join_end hB hJw HSJ.out hvJ HcJ.out (hQb _ hQ0) (hQb _ hQo) (fun g hg => (HG.out.gath.block hg).1) hG9 hu9 hat9)
   have hJ9 : w9.heap[J]? = some (.cells #[_] 178 (0, 0)) := hu9.blk (((hQb _ hQo).block _ hJw).trans HcJ.out) hvJ
   have cJ9 := block_cell (j := 0) hJ9 rfl
   have fJ9 := block_free (j := 0) hJ9
   obtain ⟨⟨va9, vc9⟩, hv9⟩ : ∃ p : Option Addr × Nat, v' = .slice p.1 (ins l k o).length p.2 := by
    obtain ⟨a, c, h⟩ := hG9.gath.shape
    exact ⟨(a, c), h⟩
   subst hv9
   clear hin hG9 hu9 hat9 hJ9
   go_wp2_with fail
   refine any_one 10 (by kernel_rfl) rfl (by rfl) (fun K hK => ?_)
   go_wp2_with fail
   refine any_one 11 (by kernel_rfl) rfl (by rfl) (fun K hK => ?_)
   go_wp2_with fail
   refine any_one 12 (by kernel_rfl) rfl (by rfl) (fun K hK => ?_)
   go_wp2_with fail
   refine any_done (by kernel_rfl) ?_
   go_wp2_with fail
   go_ret
   exact ⟨rfl, Hend.out⟩
  ·go_wp2_with fail
   refine any_two 4 7 (by kernel_rfl) (op_do rfl (by rfl) (fun K hK => ?_)) (op_do rfl (by rfl) (fun K hK => ?_))
   ·go_wp2_with fail
    refine any_one 7 (by kernel_rfl) rfl (by rfl) (fun K hK => ?_)
    go_wp2_with fail
    refine hown.mono ?_
    rintro e xo ⟨lo, rfl, hoo, hbo⟩
    obtain ⟨⟨lop, loc⟩, rfl⟩ := hoo.1.shape
    have hQo := HQn.out _ _ hQ0 hbo
    have zJo := cJ _ hQo
    have zJo2 := cJ _ (HQa.out _ (.cells #[.int .i64 o.id, .int .i64 o.kind, .slice lop o.links.length loc, .string o.text] 46) hQo)
    go_wp2_with fail
    refine any_one 8 (by kernel_rfl) rfl (by rfl) (fun K hK => ?_)
    go_wp2_with fail
    have hin := insert_gath (HG.out.below (hQb _ hQo)) hoo.lt (fun b hb => ⟨hb.2, fun e => by have h1 := (HG.out.gath.block e).2; have h2 := (hQb _ hQ0).size; omega⟩) (show l.length ≤ 1000 by omega) (show B ≤ xo.heap.size by have := (hQb _ hQo).size; omega) hlo rfl
    refine any_one 9 (by kernel_rfl) rfl (by rfl) (fun K hK => ?_)
    go_wp2_with fail
    refine hin.mono ?_
    rintro e w9 ⟨v', rfl, hG9, hu9, hat9⟩
    have Hend := Lib.hid (join_end hB hJw HSJ.out hvJ HcJ.out (hQb _ hQ0) (hQb _ hQo) (fun g hg => (HG.out.gath.block hg).1) hG9 hu9 hat9)
    have hJ9 : w9.heap[J]? = some (.cells #[_] 178 (0, 0)) := hu9.blk (((hQb _ hQo).block _ hJw).trans HcJ.out) hvJ
    have cJ9 := block_cell (j := 0) hJ9 rfl
    have fJ9 := block_free (j := 0) hJ9
    obtain ⟨⟨va9, vc9⟩, hv9⟩ : ∃ p : Option Addr × Nat, v' = .slice p.1 (ins l k o).length p.2 := by
     obtain ⟨a, c, h⟩ := hG9.gath.shape
     exact ⟨(a, c), h⟩
    subst hv9
    clear hin hG9 hu9 hat9 hJ9
    go_wp2_with fail
    refine any_one 10 (by kernel_rfl) rfl (by rfl) (fun K hK => ?_)
    go_wp2_with fail
    refine any_one 11 (by kernel_rfl) rfl (by rfl) (fun K hK => ?_)
    go_wp2_with fail
    refine any_one 12 (by kernel_rfl) rfl (by rfl) (fun K hK => ?_)
    go_wp2_with fail
    refine any_done (by kernel_rfl) ?_
    go_wp2_with fail
    go_ret
    exact ⟨rfl, Hend.out⟩
   ·go_wp2_with fail
    refine hown.mono ?_
    rintro e xo ⟨lo, rfl, hoo, hbo⟩
    obtain ⟨⟨lop, loc⟩, rfl⟩ := hoo.1.shape
    have hQo := HQn.out _ _ hQ0 hbo
    have zJo := cJ _ hQo
    have zJo2 := cJ _ (HQa.out _ (.cells #[.int .i64 o.id, .int .i64 o.kind, .slice lop o.links.length loc, .string o.text] 46) hQo)
    go_wp2_with fail
    refine any_two 4 8 (by kernel_rfl) (op_do rfl (by rfl) (fun K hK => ?_)) (op_do rfl (by rfl) (fun K hK => ?_))
    ·go_wp2_with fail
     refine any_one 8 (by kernel_rfl) rfl (by rfl) (fun K hK => ?_)
     go_wp2_with fail
     have hin := insert_gath (HG.out.below (hQb _ hQo)) hoo.lt (fun b hb => ⟨hb.2, fun e => by have h1 := (HG.out.gath.block e).2; have h2 := (hQb _ hQ0).size; omega⟩) (show l.length ≤ 1000 by omega) (show B ≤ xo.heap.size by have := (hQb _ hQo).size; omega) hlo rfl
     refine any_one 9 (by kernel_rfl) rfl (by rfl) (fun K hK => ?_)
     go_wp2_with fail
     refine hin.mono ?_
     rintro e w9 ⟨v', rfl, hG9, hu9, hat9⟩
     have Hend := Lib.hid (join_end hB hJw HSJ.out hvJ HcJ.out (hQb _ hQ0) (hQb _ hQo) (fun g hg => (HG.out.gath.block hg).1) hG9 hu9 hat9)
     have hJ9 : w9.heap[J]? = some (.cells #[_] 178 (0, 0)) := hu9.blk (((hQb _ hQo).block _ hJw).trans HcJ.out) hvJ
     have cJ9 := block_cell (j := 0) hJ9 rfl
     have fJ9 := block_free (j := 0) hJ9
     obtain ⟨⟨va9, vc9⟩, hv9⟩ : ∃ p : Option Addr × Nat, v' = .slice p.1 (ins l k o).length p.2 := by
      obtain ⟨a, c, h⟩ := hG9.gath.shape
      exact ⟨(a, c), h⟩
     subst hv9
     clear hin hG9 hu9 hat9 hJ9
     go_wp2_with fail
     refine any_one 10 (by kernel_rfl) rfl (by rfl) (fun K hK => ?_)
     go_wp2_with fail
     refine any_one 11 (by kernel_rfl) rfl (by rfl) (fun K hK => ?_)
     go_wp2_with fail
     refine any_one 12 (by kernel_rfl) rfl (by rfl) (fun K hK => ?_)
     go_wp2_with fail
     refine any_done (by kernel_rfl) ?_
     go_wp2_with fail
     go_ret
     exact ⟨rfl, Hend.out⟩
    ·go_wp2_with fail
     refine any_one 4 (by kernel_rfl) rfl (by rfl) (fun K hK => ?_)
     go_wp2_with fail
     have hin := insert_gath (HG.out.below (hQb _ hQo)) hoo.lt (fun b hb => ⟨hb.2, fun e => by have h1 := (HG.out.gath.block e).2; have h2 := (hQb _ hQ0).size; omega⟩) (show l.length ≤ 1000 by omega) (show B ≤ xo.heap.size by have := (hQb _ hQo).size; omega) hlo rfl
     refine any_one 9 (by kernel_rfl) rfl (by rfl) (fun K hK => ?_)
     go_wp2_with fail
     refine hin.mono ?_
     rintro e w9 ⟨v', rfl, hG9, hu9, hat9⟩
     have Hend := Lib.hid (join_end hB hJw HSJ.out hvJ HcJ.out (hQb _ hQ0) (hQb _ hQo) (fun g hg => (HG.out.gath.block hg).1) hG9 hu9 hat9)
     have hJ9 : w9.heap[J]? = some (.cells #[_] 178 (0, 0)) := hu9.blk (((hQb _ hQo).block _ hJw).trans HcJ.out) hvJ
     have cJ9 := block_cell (j := 0) hJ9 rfl
     have fJ9 := block_free (j := 0) hJ9
     obtain ⟨⟨va9, vc9⟩, hv9⟩ : ∃ p : Option Addr × Nat, v' = .slice p.1 (ins l k o).length p.2 := by
      obtain ⟨a, c, h⟩ := hG9.gath.shape
      exact ⟨(a, c), h⟩
     subst hv9
     clear hin hG9 hu9 hat9 hJ9
     go_wp2_with fail
     refine any_one 10 (by kernel_rfl) rfl (by rfl) (fun K hK => ?_)
     go_wp2_with fail
     refine any_one 11 (by kernel_rfl) rfl (by rfl) (fun K hK => ?_)
     go_wp2_with fail
     refine any_one 12 (by kernel_rfl) rfl (by rfl) (fun K hK => ?_)
     go_wp2_with fail
     refine any_done (by kernel_rfl) ?_
     go_wp2_with fail
     go_ret
     exact ⟨rfl, Hend.out⟩
 ·have HjL := Lib.hid (show joinL l o = l by unfold joinL; rw [if_pos hat])
  have hk : lo l o.id < l.length := by unfold isAt at hat; simp at hat; exact hat.1
  have HjE := Lib.hid (show joinE l o = if sameObj (obj l (lo l o.id)) o = false then 6 else 0 by unfold joinE; simp [hat])
  rw [HjL.out]
  obtain ⟨a5, n5, c5, la5, ln5, lc5, HN5, e5, _, _, _, h45, h55⟩ := hst.open
  cases e5
  obtain ⟨b, off, rfl, _, k0, k1, k2, k3⟩ := h45 (by omega)
  have Hs := Lib.hid (fun x (hx : In Q x) => same_any (obj l (lo l o.id)) o _ _ _ _ x ((h55 _ hk).below (hQb _ hx)) (ho.below (hQb _ hx)))
  rw [hat] at Hat
  generalize lo l o.id = k at *
  have x0 := fun x (hx : In Q x) => k0 k x hk (hQb x hx)
  have x1 := fun x (hx : In Q x) => k1 k x hk (hQb x hx)
  have x2 := fun x (hx : In Q x) => k2 k x hk (hQb x hx)
  have x3 := fun x (hx : In Q x) => k3 k x hk (hQb x hx)
  have HJ := Lib.hid (fun x (hx : In Q x) => And.intro (hJ'.below (hQb x hx)) ((hQb x hx).mono (show B ≤ w.heap.size by omega)))
  have hi1 : (0 : Int) ≤ (k : Int) := by omega
  have hi2 : (k : Int) < (l.length : Int) := by omega
  clear k0 k1 k2 k3 h45 h55 hG hSJ hvJ hcJ hst hJ' hr HN5 ho
  rw [HjE.out]
  have Hend := Lib.hid (fun x (hx : In Q x) => HJ.out x hx)
  cases hs : sameObj (obj l k) o
  case' false => rw [hs] at Hs
  case' true => rw [hs] at Hs
  all_goals
   go_enter Tryz.func143, Tryz.ntmps143
   go_wp2_with fail
   refine wp_region_quiet_below (by kernel_rfl) (by kernel_rfl) ?_
   repeat (quiet_step (exact Calls.regrown_of (Hat.out _ (hQg _ _ _ hQ1))))
   refine wpQuiet_nil ?_
   intro _ hw'
   obtain ⟨⟨dq, osq⟩, hw''⟩ := hw'
   subst hw''
   have hQ2 := hQg _ dq osq hQ1
   generalize Go.Sort.grow (redrawn _ dq) osq = w5 at *
   go_wp2_with fail
   refine wp_region_quiet_below (by kernel_rfl) (by kernel_rfl) ?_
   repeat (quiet_step (exact Calls.regrown_of (Hs.out _ (hQg _ _ _ hQ2))))
   refine wpQuiet_nil ?_
   intro _ hw'
   obtain ⟨⟨dq, osq⟩, hw''⟩ := hw'
   subst hw''
   have hQ3 := hQg _ dq osq hQ2
   generalize Go.Sort.grow (redrawn _ dq) osq = w6 at *
   go_wp2_with fail
   go_ret
   exact ⟨rfl, (Hend.out _ hQ3).1, (Hend.out _ hQ3).2⟩
end Go.Proofs.YtjdgpgfiomnjkaaGreatDoor
namespace Go.Proofs.YtjdgpgfiomnjkaaGreatDoor
open Go.RowKit
set_option linter.unusedVariables false
set_option linter.unusedSimpArgs false
set_option linter.unusedSectionVars false
variable [Ghost]
structure Does (g : Nat) (f : Array Value) (l : List Obj) (w0 : World) (I : Nat → World → Prop) (err : Nat → Int) : Prop where
 enter : ∀ args w, (callFunc g args).run Tryz.prog w = .ok (.enter g args) w
 below : ∀ k x, I k x → Below w0.heap.size w0 x
 next : ∀ k x y, I k x → Below x.heap.size x y → I k y
 step : ∀ k x (lv : Value) (S : Nat → Prop), k < l.length → scan err k = 0 → I k x → ObjIs S x (obj l k) lv →
  Calls Tryz.prog g (f ++ #[.agg #[.int .i64 (obj l k).id, .int .i64 (obj l k).kind, lv, .string (obj l k).text]]) x fun e w' => e = .returned (.int .i64 (err k)) ∧ Below w0.heap.size w0 w' ∧ (err k = 0 → I (k + 1) w')
set_option maxRecDepth 100000 in
set_option maxHeartbeats 2000000 in
theorem each_any {g : Nat} {f : Array Value} {l : List Obj} {w0 w : World} {I : Nat → World → Prop} {err : Nat → Int} (hd : Does g f l w0 I err) (lv : Value) (S : Nat → Prop) (h : StoreV S w0 lv l) (h0 : I 0 w) :
  Calls Tryz.prog 81 #[lv, .func (.func g) f #[]] w fun e w' => e = .returned (.int .i64 (scan err l.length)) ∧ Below w0.heap.size w0 w' ∧ (scan err l.length = 0 → I l.length w') := by
 have h' := h
 obtain ⟨a, n, cap, la, ln, lc, HN, rfl, h1, h2, h3, h4, h5⟩ := h.open
 have eg := hd.enter
 have Hd := Lib.hid hd
 have Hn := Lib.hid HN.out.1
 rw [← Hn.out]
 clear h hd
 go_enter Tryz.func81, Tryz.ntmps81
 go_wp2_with fail
 go_loopw [10] (fun i wr => ∃ k : Nat, k ≤ n ∧ i = .int .i64 k ∧ Hid (scan err k = 0) ∧ Hid (I k wr)) (fun i _ => n - (intOf i).toNat)
 case atStart => exact ⟨0, by omega, rfl, rfl, h0⟩
 case round =>
  obtain ⟨k, hk, rfl, Hs, HI⟩ := hrel
  clear h0
  have hRw := Hd.out.below _ _ HI.out
  by_cases hlt : k < n
  ·obtain ⟨b, off, rfl, hb, k0, k1, k2, k3⟩ := h4 (by omega)
   have x0 := k0 k wr hlt hRw
   have x1 := k1 k wr hlt hRw
   have x2 := k2 k wr hlt hRw
   have x3 := k3 k wr hlt hRw
   obtain ⟨Q, hQ, hQ1, y0, y1, y2, y3⟩ := cls_box4 wr (.int .i64 (obj l k).id) (.int .i64 (obj l k).kind) (.slice (la k) (ln k) (lc k)) (.string (obj l k).text) 46
   have Hc := Lib.hid (Hd.out.step k _ _ S (by rw [← Hn.out]; exact hlt) Hs.out (Hd.out.next _ _ _ HI.out (hQ.below _ hQ1)) ((h5 k hlt).below (below_next hRw (hQ.below _ hQ1))))
   have z0 := y0 _ hQ1
   have z1 := y1 _ hQ1
   have z2 := y2 _ hQ1
   have z3 := y3 _ hQ1
   have hi1 : (0 : Int) ≤ (k : Int) := by omega
   have hi2 : (k : Int) < (n : Int) := by omega
   clear k0 k1 k2 k3 h4 h5 y0 y1 y2 y3
   by_cases he : err k = 0
   ·have hq : (err k != 0) = false := by simpa using he
    have Hs2 := Lib.hid (show scan err (k + 1) = 0 from scan_next Hs.out he)
    have He := Lib.hid he
    clear he
    go_wp2_with fail
    refine Hc.out.mono ?_
    rintro e w' ⟨rfl, hb2, hI2⟩
    have HI2 := Lib.hid (hI2 He.out)
    clear hI2 hb2
    go_wp2_with fail
    go_roundw
    case rel => exact ⟨k + 1, by omega, by go_num, Hs2, HI2⟩
    case measure => simp [intOf]; omega
   ·have hq : (err k != 0) = true := by simpa using he
    have Hs2 := Lib.hid (show scan err n = err k from scan_hit Hs.out he hlt)
    have He := Lib.hid he
    clear he
    go_wp2_with fail
    refine Hc.out.mono ?_
    rintro e w' ⟨rfl, hb2, hI2⟩
    clear hI2
    go_wp2_with fail
    go_ret
    exact ⟨ret_int Hs2.out.symm, hb2, fun h => absurd (Hs2.out.symm.trans h) He.out⟩
  ·obtain rfl : k = n := by omega
   go_wp2_with fail
   go_ret
   exact ⟨ret_int Hs.out.symm, hRw, fun _ => HI.out⟩
end Go.Proofs.YtjdgpgfiomnjkaaGreatDoor
namespace Go.Proofs.YtjdgpgfiomnjkaaGreatDoor
set_option linter.unusedVariables false
set_option linter.unusedSimpArgs false
set_option linter.unusedSectionVars false
variable [Ghost]
theorem rising_ins {l : List Obj} {i : Nat} {o : Obj} (h : Rising l) (hi : i ≤ l.length) (h1 : ∀ j, j < i → (obj l j).id < o.id) (h2 : ∀ j, i ≤ j → j < l.length → o.id < (obj l j).id) : Rising (ins l i o) := by
 intro a b hab hb
 rw [ins_length hi] at hb
 rcases Nat.lt_trichotomy a i with ha | rfl | ha
 ·rw [ins_lt hi ha]
  rcases Nat.lt_trichotomy b i with hb' | rfl | hb'
  ·rw [ins_lt hi hb']; exact h a b hab (by omega)
  ·rw [ins_eq hi]; exact h1 a ha
  ·obtain ⟨c, rfl⟩ : ∃ c, b = c + 1 := ⟨b - 1, by omega⟩
   rw [ins_gt hi (by omega)]; exact h a c (by omega) (by omega)
 ·obtain ⟨c, rfl⟩ : ∃ c, b = c + 1 := ⟨b - 1, by omega⟩
  rw [ins_eq hi, ins_gt hi (by omega)]; exact h2 c (by omega) (by omega)
 ·obtain ⟨c, rfl⟩ : ∃ c, b = c + 1 := ⟨b - 1, by omega⟩
  obtain ⟨d, rfl⟩ : ∃ d, a = d + 1 := ⟨a - 1, by omega⟩
  rw [ins_gt hi (by omega), ins_gt hi (by omega)]; exact h d c (by omega) (by omega)
theorem Rising.lo_gt {l : List Obj} (h : Rising l) {id : Int} (hn : isAt l id = false) : ∀ j, lo l id ≤ j → j < l.length → id < (obj l j).id := by
 intro j hj hjl
 have h1 := h.lo_ge j hj hjl
 rcases Nat.lt_or_ge (lo l id) j with h2 | h2
 ·have a := h.lo_ge (id := id) (lo l id) (Nat.le_refl _) (by omega)
  have b := h (lo l id) j h2 hjl
  omega
 ·have e : j = lo l id := by omega
  subst e
  have : ¬ (obj l (lo l id)).id = id := by
   unfold isAt at hn
   intro e
   simp [hjl, e] at hn
  omega
theorem Rising.join {l : List Obj} (h : Rising l) (o : Obj) : Rising (joinL l o) := by
 unfold joinL
 split
 ·exact h
 ·rename_i hn
  exact rising_ins h (lo_le _ _) (fun j hj => h.lo_lt j hj) (h.lo_gt (by simpa using hn))
theorem joinL_length (l : List Obj) (o : Obj) : (joinL l o).length ≤ l.length + 1 := by
 unfold joinL
 split
 ·omega
 ·rw [ins_length (lo_le _ _)]; omega
def joined (l more : List Obj) : Nat → List Obj
 | 0 => l
 | k + 1 => joinL (joined l more k) (obj more k)
def joinErr (l more : List Obj) (k : Nat) : Int := joinE (joined l more k) (obj more k)
theorem joined_rising {l : List Obj} (h : Rising l) (more : List Obj) (k : Nat) : Rising (joined l more k) := by
 induction k with
 | zero => exact h
 | succ k ih => exact ih.join _
theorem joined_length (l more : List Obj) (k : Nat) : (joined l more k).length ≤ l.length + k := by
 induction k with
 | zero => exact Nat.le_refl _
 | succ k ih => have := joinL_length (joined l more k) (obj more k); show (joinL _ _).length ≤ _; omega
def withE (l more : List Obj) : Int := if scan (joinErr l more) more.length = 0 then checkStore (joined l more more.length) else scan (joinErr l more) more.length
def withL (l more : List Obj) : List Obj := if withE l more = 0 then joined l more more.length else []
def addE (l more : List Obj) : Int :=
 if checkStore l ≠ 0 then checkStore l else if 12 < more.length then 2 else if scan (fun k => checkObj (obj more k)) more.length ≠ 0 then scan (fun k => checkObj (obj more k)) more.length else withE l more
def addL (l more : List Obj) : List Obj := if addE l more = 0 then joined l more more.length else []
end Go.Proofs.YtjdgpgfiomnjkaaGreatDoor
namespace Go.Proofs.YtjdgpgfiomnjkaaGreatDoor
open Go.RowKit
set_option linter.unusedVariables false
set_option linter.unusedSimpArgs false
set_option linter.unusedSectionVars false
variable [Ghost]
set_option maxRecDepth 100000 in
theorem joins_does (l more : List Obj) (hr : Rising l) (hl : l.length ≤ 500) (hm : more.length ≤ 400) (w0 : World) (J : Nat) (hJ : w0.heap.size ≤ J) :
  Does 143 #[.pointer (some ⟨J, 0, none⟩)] more w0 (fun k x => JoinAt w0.heap.size J x (joined l more k) ∧ Below w0.heap.size w0 x) (joinErr l more) where
 enter := fun _ _ => rfl
 below := fun k x h => h.2
 next := fun k x y h hb => ⟨h.1.below hb, below_next h.2 hb⟩
 step := fun k x lv S hk hs hI ho => by
  have hj := join_any hI.1 (joined_rising hr more k) (obj more k) lv S ho (by have := joined_length l more k; omega) hJ
  refine hj.mono ?_
  rintro e w' ⟨rfl, h1, h2⟩
  have hb : Below w0.heap.size w0 w' := hI.2.trans h2
  exact ⟨rfl, hb, fun _ => ⟨h1, hb⟩⟩
theorem joinAt_new {B : Nat} {w1 : World} {v : Value} {l : List Obj} (h : GathF B w1 v l) : JoinAt B w1.heap.size (w1.alloc (.cells #[v] 178)) l := by
 obtain ⟨S, hS, hge⟩ := h
 obtain ⟨lvs, h1, h2, h3⟩ := id hS
 exact ⟨v, S, hS.below ((Below.refl _ _).alloc (Nat.le_refl _) _), fun b hb => ⟨fun e => by have := (h1 b hb).1; omega, hge b hb⟩, fun e => by have := (h2.lt _ e).2; omega, heap_alloc_new w1 _⟩
set_option maxRecDepth 100000 in
set_option maxHeartbeats 2000000 in
theorem withF_any (l more : List Obj) (lv mv : Value) (S S' : Nat → Prop) (w : World) (h : StoreV S w lv l) (hm : StoreV S' w mv more) (hr : Rising l) (hl : l.length ≤ 500) (hml : more.length ≤ 400) :
  Calls Tryz.prog 82 #[lv, mv] w fun e w' => RetStoreF w w' e (withL l more) (withE l more) := by
 have hmf : ∀ (fn : Fn) (first cap : Array Value) (w : World), (Instr.makeFunc fn first cap).run Tryz.prog w = .ok (.func fn first cap) w := fun _ _ _ _ => rfl
 have Hown := Lib.hid (storeOwn_any l lv S w h)
 have HE := Lib.hid (fun J (hJ : w.heap.size ≤ J) x (hx : JoinAt w.heap.size J x l ∧ Below w.heap.size w x) => each_any (joins_does l more hr hl hml w J hJ) mv S' hm hx)
 have HC := Lib.hid (fun v x (hx : StoreV (fun b => w.heap.size ≤ b) x v (joined l more more.length)) => storeCheck_any (joined l more more.length) v _ x hx)
 have HwE := Lib.hid (show withE l more = if scan (joinErr l more) more.length = 0 then checkStore (joined l more more.length) else scan (joinErr l more) more.length from rfl)
 have HwL := Lib.hid (show withL l more = if withE l more = 0 then joined l more more.length else [] from rfl)
 have hjl := joined_length l more more.length
 have HJl := Lib.hid (show (joined l more more.length).length * 56 ≤ 140737488351232 by omega)
 obtain ⟨la, lc, rfl⟩ := h.vshape
 obtain ⟨ma, mc, rfl⟩ := hm.vshape
 clear h hm hjl
 generalize joined l more more.length = jl at *
 generalize scan (joinErr l more) more.length = se at *
 have h3 : (se = 0 ∧ checkStore jl = 0) ∨ (se = 0 ∧ checkStore jl ≠ 0) ∨ se ≠ 0 := by
  by_cases a : se = 0
  ·by_cases b : checkStore jl = 0
   ·exact .inl ⟨a, b⟩
   ·exact .inr (.inl ⟨a, b⟩)
  ·exact .inr (.inr a)
 rcases h3 with ⟨hs, hc⟩ | ⟨hs, hc⟩ | hs
 case' inl =>
  have hq : (se == 0) = true := by simpa using hs
  have hq2 : (checkStore jl != 0) = false := by simpa using hc
  rw [if_pos hs] at HwE
  have Hs := Lib.hid hs
  rw [HwL.out, HwE.out, if_pos hc, hc]
  clear hs hc
 case' inr.inl =>
  have hq : (se == 0) = true := by simpa using hs
  have hq2 : (checkStore jl != 0) = true := by simpa using hc
  rw [if_pos hs] at HwE
  have Hs := Lib.hid hs
  rw [HwL.out, HwE.out, if_neg hc]
  clear hs hc
 case' inr.inr =>
  have hq : (se == 0) = false := by simpa using hs
  have hq2 : (se != 0) = true := by simpa using hs
  rw [if_neg hs] at HwE
  rw [HwL.out, HwE.out, if_neg hs]
  clear hs
 all_goals
  go_enter Tryz.func82, Tryz.ntmps82
  go_wp2_with fail
  refine Hown.out.mono ?_
  rintro e w1 ⟨v1, rfl, hg1, hb1⟩
  obtain ⟨va, vc, rfl⟩ := hg1.gath.shape
  have hJ := joinAt_new hg1
  have hb2 : Below w.heap.size w (w1.alloc (.cells #[.slice va l.length vc] 178)) := below_next hb1 ((Below.refl _ _).alloc (Nat.le_refl _) _)
  have Hea := Lib.hid (HE.out w1.heap.size hb1.size _ ⟨hJ, hb2⟩)
  clear hJ hb2 hg1 hb1
  go_wp2_with fail
  refine Hea.out.mono ?_
  rintro e w3 ⟨rfl, hb3, hI3⟩
 ·have Hb3 := Lib.hid hb3
  clear hI3
  go_wp2_with fail
  go_ret2
  exact ⟨_, rfl, StoreV.nil _ _ _ _ (by omega), Hb3.out⟩
 ·obtain ⟨hJ3, hB3⟩ := hI3 Hs.out
  obtain ⟨v3, S3, hG3, hS3, _, hc3⟩ := hJ3
  obtain ⟨a3, c3, rfl⟩ := hG3.gath.shape
  have hst := GathF.store ⟨S3, hG3, fun b hb => (hS3 b hb).2⟩ HJl.out
  have j0 := block_cell (j := 0) hc3 rfl
  have Hck := Lib.hid (HC.out _ _ hst)
  go_wp2_with fail
  refine Hck.out.mono ?_
  rintro e w4 ⟨rfl, hb4⟩
  have j4 := block_cell (j := 0) ((hb4.block _ (lt_of_block hc3)).trans hc3) rfl
  have Hend := Lib.hid (And.intro (hst.below hb4) (below_next hB3 hb4))
  have Hx := Lib.hid (below_next hB3 hb4)
  go_wp2_with fail
  go_ret2
  exact ⟨_, rfl, StoreV.nil _ _ _ _ (by omega), Hend.out.2⟩
 ·obtain ⟨hJ3, hB3⟩ := hI3 Hs.out
  obtain ⟨v3, S3, hG3, hS3, _, hc3⟩ := hJ3
  obtain ⟨a3, c3, rfl⟩ := hG3.gath.shape
  have hst := GathF.store ⟨S3, hG3, fun b hb => (hS3 b hb).2⟩ HJl.out
  have j0 := block_cell (j := 0) hc3 rfl
  have Hck := Lib.hid (HC.out _ _ hst)
  go_wp2_with fail
  refine Hck.out.mono ?_
  rintro e w4 ⟨rfl, hb4⟩
  have j4 := block_cell (j := 0) ((hb4.block _ (lt_of_block hc3)).trans hc3) rfl
  have Hend := Lib.hid (And.intro (hst.below hb4) (below_next hB3 hb4))
  go_wp2_with fail
  go_ret2
  exact ⟨_, rfl, Hend.out.1, Hend.out.2⟩
end Go.Proofs.YtjdgpgfiomnjkaaGreatDoor
namespace Go.Proofs.YtjdgpgfiomnjkaaGreatDoor
open Go.RowKit
set_option linter.unusedVariables false
set_option linter.unusedSimpArgs false
set_option linter.unusedSectionVars false
variable [Ghost]
def eachE (more : List Obj) : Int := scan (fun k => checkObj (obj more k)) more.length
set_option maxRecDepth 100000 in
theorem checks_does (more : List Obj) (w0 : World) : Does 67 #[] more w0 (fun _ x => Below w0.heap.size w0 x) (fun k => checkObj (obj more k)) where
 enter := fun _ _ => rfl
 below := fun k x h => h
 next := fun k x y h hb => below_next h hb
 step := fun k x lv S hk hs hI ho => by
  refine (check_any (obj more k) lv S x ho).mono ?_
  rintro e w' ⟨rfl, h2⟩
  exact ⟨rfl, below_next hI h2, fun _ => below_next hI h2⟩
set_option maxRecDepth 100000 in
set_option maxHeartbeats 2000000 in
theorem addF_any (l more : List Obj) (lv mv : Value) (S S' : Nat → Prop) (w : World) (h : StoreV S w lv l) (hm : StoreV S' w mv more) :
  Calls Tryz.prog 24 #[lv, mv] w fun e w' => RetStoreF w w' e (addL l more) (addE l more) := by
 have HC := Lib.hid (fun x (hx : Below w.heap.size w x) => storeCheck_any l lv _ x (h.below hx))
 have HE := Lib.hid (fun x (hx : Below w.heap.size w x) => each_any (checks_does more w) mv S' hm hx)
 have HW := Lib.hid (fun (hr : Rising l) hl hml x (hx : Below w.heap.size w x) => withF_any l more lv mv S S' x (h.below hx) (hm.below hx) hr hl hml)
 have HwE := Lib.hid (show addE l more = if checkStore l ≠ 0 then checkStore l else if 12 < more.length then 2 else if eachE more ≠ 0 then eachE more else withE l more from rfl)
 have HwL := Lib.hid (show addL l more = if addE l more = 0 then joined l more more.length else [] from rfl)
 have HwL2 := Lib.hid (show withL l more = if withE l more = 0 then joined l more more.length else [] from rfl)
 obtain ⟨la, lc, rfl⟩ := h.vshape
 obtain ⟨ma, mc, rfl⟩ := hm.vshape
 have Hz := Lib.hid (checkStore_zero (l := l))
 have Hri := Lib.hid (checkStore_rising (l := l))
 have hee : scan (fun k => checkObj (obj more k)) more.length = eachE more := rfl
 rw [hee] at HE
 have hm63 : more.length * 56 ≤ 140737488351232 := by
  obtain ⟨_, ⟨_, _, _, _, _, h3, _⟩, _⟩ := hm
  exact h3
 clear h hm hee
 generalize eachE more = ee at *
 by_cases hc : checkStore l = 0
 ·have hq : (checkStore l == 0) = true := by simpa using hc
  have hlen := (Hz.out hc).1
  have HW2 := Lib.hid (fun hml => HW.out (Hri.out hc) (by omega) hml)
  rw [hc] at HC
  by_cases h12 : 12 < more.length
  ·have hd : decide ((12 : Int) < (more.length : Int)) = true := by simp; omega
   have e1 : addE l more = 2 := by rw [HwE.out]; simp [hc, h12]
   have e2 : addL l more = [] := by rw [HwL.out, e1]; rfl
   rw [e1, e2]
   clear e1 e2
   clear hc hq
   go_enter Tryz.func24, Tryz.ntmps24
   go_wp2_with fail
   refine (HC.out _ (Below.refl _ _)).mono ?_
   rintro e w1 ⟨rfl, hb1⟩
   go_wp2_with fail
   go_ret2
   exact ⟨_, rfl, StoreV.nil _ _ _ _ (by omega), hb1⟩
  ·have hd : decide ((12 : Int) < (more.length : Int)) = false := by simp; omega
   have HW3 := Lib.hid (HW2.out (by omega))
   by_cases he : ee = 0
   ·have e1 : addE l more = withE l more := by rw [HwE.out]; simp [hc, h12, he]
    have e2 : addL l more = withL l more := by rw [HwL.out, HwL2.out, e1]
    rw [e1, e2]
    clear e1 e2
    rw [he] at HE
    clear hc hq h12 he
    go_enter Tryz.func24, Tryz.ntmps24
    go_wp2_with fail
    refine (HC.out _ (Below.refl _ _)).mono ?_
    rintro e w1 ⟨rfl, hb1⟩
    go_wp2_with fail
    refine (HE.out _ hb1).mono ?_
    rintro e w2 ⟨rfl, hb2, _⟩
    go_wp2_with fail
    refine (HW3.out _ hb2).mono ?_
    rintro e w3 ⟨v3, rfl, hv3, hb3⟩
    obtain ⟨a3, c3, rfl⟩ := hv3.vshape
    have Hend := Lib.hid (And.intro (hv3.weaken (S' := fun b => w.heap.size ≤ b) fun b hb => Nat.le_trans hb2.size hb) (below_next hb2 hb3))
    clear hv3 hb3 hb2
    go_wp2_with fail
    go_ret2
    exact ⟨_, rfl, Hend.out.1, Hend.out.2⟩
   ·have hq3 : (ee == 0) = false := by simpa using he
    have hq4 : (ee != 0) = true := by simpa using he
    have e1 : addE l more = ee := by rw [HwE.out]; simp [hc, h12, he]
    have e2 : addL l more = [] := by rw [HwL.out, e1, if_neg he]
    rw [e1, e2]
    clear e1 e2
    clear hc hq h12 he
    go_enter Tryz.func24, Tryz.ntmps24
    go_wp2_with fail
    refine (HC.out _ (Below.refl _ _)).mono ?_
    rintro e w1 ⟨rfl, hb1⟩
    go_wp2_with fail
    refine (HE.out _ hb1).mono ?_
    rintro e w2 ⟨rfl, hb2, _⟩
    go_wp2_with fail
    go_ret2
    exact ⟨_, rfl, StoreV.nil _ _ _ _ (by omega), hb2⟩
 ·have hq : (checkStore l == 0) = false := by simpa using hc
  have hq2 : (checkStore l != 0) = true := by simpa using hc
  rw [HwL.out, HwE.out, if_pos hc, if_neg hc]
  generalize checkStore l = cl at *
  go_enter Tryz.func24, Tryz.ntmps24
  go_wp2_with fail
  refine (HC.out _ (Below.refl _ _)).mono ?_
  rintro e w1 ⟨rfl, hb1⟩
  go_wp2_with fail
  go_ret2
  exact ⟨_, rfl, StoreV.nil _ _ _ _ (by omega), hb1⟩
end Go.Proofs.YtjdgpgfiomnjkaaGreatDoor
namespace Go.Proofs.YtjdgpgfiomnjkaaGreatDoor
open Go.RowKit
set_option linter.unusedVariables false
set_option linter.unusedSimpArgs false
set_option linter.unusedSectionVars false
variable [Ghost]
theorem add_any (l more : List Obj) (lv mv : Value) (S S' : Nat → Prop) (w : World) (h : StoreV S w lv l) (hm : StoreV S' w mv more) :
  Calls Tryz.prog 24 #[lv, mv] w fun e w' => RetStoreE w w' e (addL l more) (addE l more) := (addF_any l more lv mv S S' w h hm).mono fun _ _ h => h.e
def findE (l : List Obj) (id : Int) : Int := if checkStore l ≠ 0 then checkStore l else if isAt l id = true then 0 else 5
def findO (l : List Obj) (id : Int) : Obj := if findE l id = 0 then obj l (lo l id) else obj0
def RetObjE (w w' : World) (e : Ending) (o : Obj) (c : Int) : Prop :=
 ∃ lv, e = .returned (.tuple #[.agg #[.int .i64 o.id, .int .i64 o.kind, lv, .string o.text], .int .i64 c]) ∧ ObjIs (fun b => w.heap.size ≤ b) w' o lv ∧ Below w.heap.size w w'
set_option maxRecDepth 100000 in
set_option maxHeartbeats 2000000 in
theorem storeFind_any (l : List Obj) (id : Int) (lv : Value) (S : Nat → Prop) (w : World) (h : StoreV S w lv l) :
  Calls Tryz.prog 27 #[lv, .int .i64 id] w fun e w' => RetObjE w w' e (findO l id) (findE l id) := by
 have HwE := Lib.hid (show findE l id = if checkStore l ≠ 0 then checkStore l else if isAt l id = true then 0 else 5 from rfl)
 have HwO := Lib.hid (show findO l id = if findE l id = 0 then obj l (lo l id) else obj0 from rfl)
 have HC := Lib.hid (fun x (hx : Below w.heap.size w x) => storeCheck_any l lv _ x (h.below hx))
 obtain ⟨w0, hw0⟩ : ∃ w0 : World, w0 = w.alloc (.cells #[.int .i64 0, .int .i64 0, .slice none 0 0, .string ⟨#[]⟩] 46) := ⟨_, rfl⟩
 have h2 : w0.heap[w.heap.size]? = some (.cells #[.int .i64 0, .int .i64 0, .slice none 0 0, .string ⟨#[]⟩] 46 (0, 0)) := by rw [hw0]; exact heap_alloc_new w _
 have hb : Below w.heap.size w w0 := by rw [hw0]; exact (Below.refl _ _).alloc (Nat.le_refl _) _
 have hz : w0.heap.size = w.heap.size + 1 := by rw [hw0]; simp
 have h' := h
 obtain ⟨la, lc, rfl⟩ := h.vshape
 clear h
 by_cases hc : checkStore l = 0
 ·have HA := Lib.hid (fun x (hx : Below w.heap.size w x) => at_any l _ _ id x (h'.below hx) (checkStore_rising hc))
  rw [hc] at HC
  cases hat : isAt l id
  ·have e1 : findE l id = 5 := by rw [HwE.out]; simp [hc, hat]
   have e2 : findO l id = obj0 := by rw [HwO.out, e1]; rfl
   rw [e1, e2]
   rw [hat] at HA
   clear e1 e2 HwE HwO hc
   go_enter Tryz.func27, Tryz.ntmps27
   go_wp2_with fail
   rw [← hw0]
   have Hw0 := Lib.hid hw0; clear hw0
   refine (HC.out _ hb).mono ?_
   rintro e w1 ⟨rfl, hb1⟩
   have hB1 := below_next hb hb1
   go_wp2_with fail
   refine (HA.out _ hB1).mono ?_
   rintro e w2 ⟨rfl, hb2⟩
   have hB2 := below_next hB1 hb2
   have k1 := (hb1.block _ (lt_of_block h2)).trans h2
   have k2 := (hb2.block _ (lt_of_block k1)).trans k1
   have g0 := block_free (j := 0) k2
   have g1 := block_free (j := 1) k2
   have g2 := block_free (j := 2) k2
   have g3 := block_free (j := 3) k2
   have e0 := block_cell (j := 0) k2 rfl
   have e1 := block_cell (j := 1) k2 rfl
   have e2 := block_cell (j := 2) k2 rfl
   have e3 := block_cell (j := 3) k2 rfl
   have hs4 := set4_is (v0 := .int .i64 0) (v1 := .int .i64 0) (v2 := .slice none 0 0) (v3 := .string ⟨#[]⟩) k2
   have HB := Lib.hid (hB2.trans ((set4_upd w.heap.size (.int .i64 0) (.int .i64 0) (.slice none 0 0) (.string ⟨#[]⟩) w2).below (B := w.heap.size) hB2.size (fun b hb => by omega)))
   have Hs4 := Lib.hid hs4
   clear hs4 k2 h2 hb hb1 hB1 hB2 k1 hb2
   go_wp2_with fail
   refine bodyPost_ret (w := set4 w.heap.size (.int .i64 0) (.int .i64 0) (.slice none 0 0) (.string ⟨#[]⟩) w2) (v := .tuple #[.agg #[.int .i64 0, .int .i64 0, .slice none 0 0, .string ⟨#[]⟩], .int .i64 5]) ?_ rfl ?_
   ·have x0 := block_cell (j := 0) Hs4.out rfl
    have x1 := block_cell (j := 1) Hs4.out rfl
    have x2 := block_cell (j := 2) Hs4.out rfl
    have x3 := block_cell (j := 3) Hs4.out rfl
    clear HB Hs4 e0 e1 e2 e3
    generalize set4 w.heap.size (.int .i64 0) (.int .i64 0) (.slice none 0 0) (.string ⟨#[]⟩) w2 = wf at *
    simp [results, Tryz.results27, go_sem, *]
   ·exact ⟨.slice none 0 0, rfl, obj0_is _ _, HB.out⟩
  ·have hk : lo l id < l.length := by unfold isAt at hat; simp at hat; exact hat.1
   have e1 : findE l id = 0 := by rw [HwE.out]; simp [hc, hat]
   have e2 : findO l id = obj l (lo l id) := by rw [HwO.out, e1]; rfl
   rw [e1, e2]
   rw [hat] at HA
   clear e1 e2 HwE HwO hc hat
   generalize lo l id = k at *
   obtain ⟨a5, n5, c5, la5, ln5, lc5, HN5, e5, _, _, _, h45, h55⟩ := h'.open
   cases e5
   obtain ⟨b, off, rfl, _, k0, k1, k2, k3⟩ := h45 (by omega)
   have x0 := fun x hx => k0 k x hk hx
   have x1 := fun x hx => k1 k x hk hx
   have x2 := fun x hx => k2 k x hk hx
   have x3 := fun x hx => k3 k x hk hx
   have HO := Lib.hid (fun x (hx : Below w.heap.size w x) => own_any (obj l k) _ _ x ((h55 k hk).below hx))
   have hi1 : (0 : Int) ≤ (k : Int) := by omega
   have hi2 : (k : Int) < (l.length : Int) := by omega
   clear k0 k1 k2 k3 h45 h55 HN5
   go_enter Tryz.func27, Tryz.ntmps27
   go_wp2_with fail
   rw [← hw0]
   have Hw0 := Lib.hid hw0; clear hw0
   refine (HC.out _ hb).mono ?_
   rintro e w1 ⟨rfl, hb1⟩
   have hB1 := below_next hb hb1
   go_wp2_with fail
   refine (HA.out _ hB1).mono ?_
   rintro e w2 ⟨rfl, hb2⟩
   have hB2 := below_next hB1 hb2
   have k1 := (hb1.block _ (lt_of_block h2)).trans h2
   have k2 := (hb2.block _ (lt_of_block k1)).trans k1
   have z0 := x0 _ hB2
   have z1 := x1 _ hB2
   have z2 := x2 _ hB2
   have z3 := x3 _ hB2
   go_wp2_with fail
   refine (HO.out _ hB2).mono ?_
   rintro e w3 ⟨lv3, rfl, ho3, hb3⟩
   obtain ⟨⟨p3, c3⟩, rfl⟩ := ho3.1.shape
   have hB3 := below_next hB2 hb3
   have k3 := (hb3.block _ (lt_of_block k2)).trans k2
   have g0 := block_free (j := 0) k3
   have g1 := block_free (j := 1) k3
   have g2 := block_free (j := 2) k3
   have g3 := block_free (j := 3) k3
   have e0 := block_cell (j := 0) k3 rfl
   have e1 := block_cell (j := 1) k3 rfl
   have e2 := block_cell (j := 2) k3 rfl
   have e3 := block_cell (j := 3) k3 rfl
   have hs4 := set4_is (v0 := .int .i64 (obj l k).id) (v1 := .int .i64 (obj l k).kind) (v2 := .slice p3 (obj l k).links.length c3) (v3 := .string (obj l k).text) k3
   have hu := set4_upd w.heap.size (.int .i64 (obj l k).id) (.int .i64 (obj l k).kind) (.slice p3 (obj l k).links.length c3) (.string (obj l k).text) w3
   have hk2 := lt_of_block k2
   have HB := Lib.hid (And.intro ((ho3.upd hu (fun b hb h => by omega)).weaken (fun b hb => show w.heap.size ≤ b from Nat.le_trans hB2.size hb)) (hB3.trans (hu.below (B := w.heap.size) hB3.size (fun b hb => by omega))))
   have Hs4 := Lib.hid hs4
   clear hs4 k2 h2 hb hb1 hB1 hB2 k1 hb2 hB3 hb3 k3 hu x0 x1 x2 x3 z0 z1 z2 z3 ho3
   go_wp2_with fail
   refine bodyPost_ret (w := set4 w.heap.size (.int .i64 (obj l k).id) (.int .i64 (obj l k).kind) (.slice p3 (obj l k).links.length c3) (.string (obj l k).text) w3) (v := .tuple #[.agg #[.int .i64 (obj l k).id, .int .i64 (obj l k).kind, .slice p3 (obj l k).links.length c3, .string (obj l k).text], .int .i64 0]) ?_ rfl ?_
   ·have x0 := block_cell (j := 0) Hs4.out rfl
    have x1 := block_cell (j := 1) Hs4.out rfl
    have x2 := block_cell (j := 2) Hs4.out rfl
    have x3 := block_cell (j := 3) Hs4.out rfl
    clear HB Hs4 e0 e1 e2 e3
    generalize set4 w.heap.size (.int .i64 (obj l k).id) (.int .i64 (obj l k).kind) (.slice p3 (obj l k).links.length c3) (.string (obj l k).text) w3 = wf at *
    simp [results, Tryz.results27, go_sem, *]
   ·exact ⟨_, rfl, HB.out.1, HB.out.2⟩
 ·have hq2 : (checkStore l != 0) = true := by simpa using hc
  have e1 : findE l id = checkStore l := by rw [HwE.out, if_pos hc]
  have e2 : findO l id = obj0 := by rw [HwO.out, e1, if_neg hc]
  rw [e1, e2]
  generalize checkStore l = cl at *
  clear e1 e2 HwE HwO
  go_enter Tryz.func27, Tryz.ntmps27
  go_wp2_with fail
  rw [← hw0]
  have Hw0 := Lib.hid hw0; clear hw0
  refine (HC.out _ hb).mono ?_
  rintro e w1 ⟨rfl, hb1⟩
  have k2 := (hb1.block _ (lt_of_block h2)).trans h2
  have g0 := block_free (j := 0) k2
  have g1 := block_free (j := 1) k2
  have g2 := block_free (j := 2) k2
  have g3 := block_free (j := 3) k2
  have e0 := block_cell (j := 0) k2 rfl
  have e1 := block_cell (j := 1) k2 rfl
  have e2 := block_cell (j := 2) k2 rfl
  have e3 := block_cell (j := 3) k2 rfl
  have hs4 := set4_is (v0 := .int .i64 0) (v1 := .int .i64 0) (v2 := .slice none 0 0) (v3 := .string ⟨#[]⟩) k2
  have HB := Lib.hid ((hb.trans (hb1.mono (by omega))).trans ((set4_upd w.heap.size (.int .i64 0) (.int .i64 0) (.slice none 0 0) (.string ⟨#[]⟩) w1).below (B := w.heap.size) (by have := hb1.size; omega) (fun b hb => by omega)))
  have Hs4 := Lib.hid hs4
  clear hs4 k2 h2 hb hb1
  go_wp2_with fail
  refine bodyPost_ret (w := set4 w.heap.size (.int .i64 0) (.int .i64 0) (.slice none 0 0) (.string ⟨#[]⟩) w1) (v := .tuple #[.agg #[.int .i64 0, .int .i64 0, .slice none 0 0, .string ⟨#[]⟩], .int .i64 cl]) ?_ rfl ?_
  ·have x0 := block_cell (j := 0) Hs4.out rfl
   have x1 := block_cell (j := 1) Hs4.out rfl
   have x2 := block_cell (j := 2) Hs4.out rfl
   have x3 := block_cell (j := 3) Hs4.out rfl
   clear HB Hs4 e0 e1 e2 e3
   generalize set4 w.heap.size (.int .i64 0) (.int .i64 0) (.slice none 0 0) (.string ⟨#[]⟩) w1 = wf at *
   simp [results, Tryz.results27, go_sem, *]
  ·exact ⟨.slice none 0 0, rfl, obj0_is _ _, HB.out⟩
end Go.Proofs.YtjdgpgfiomnjkaaGreatDoor
namespace Go.Proofs.YtjdgpgfiomnjkaaGreatDoor
set_option linter.unusedVariables false
set_option linter.unusedSimpArgs false
set_option linter.unusedSectionVars false
variable [Ghost]
theorem obj_mem {l : List Obj} {i : Nat} (h : i < l.length) : obj l i ∈ l := at_mem h
theorem mem_obj {l : List Obj} {x : Obj} (h : x ∈ l) : ∃ i, i < l.length ∧ obj l i = x := by
 obtain ⟨i, hi, rfl⟩ := List.getElem_of_mem h
 exact ⟨i, hi, obj_lt hi⟩
theorem mem_ins {l : List Obj} {i : Nat} {o x : Obj} : x ∈ ins l i o ↔ x = o ∨ x ∈ l := by
 unfold ins
 rw [List.mem_append, List.mem_cons]
 constructor
 ·rintro (h | h | h)
  ·exact .inr (List.mem_of_mem_take h)
  ·exact .inl h
  ·exact .inr (List.mem_of_mem_drop h)
 ·rintro (h | h)
  ·exact .inr (.inl h)
  ·rw [← List.take_append_drop i l, List.mem_append] at h
   rcases h with h | h
   ·exact .inl h
   ·exact .inr (.inr h)
theorem isAt_spec {l : List Obj} {id : Int} (h : isAt l id = true) : lo l id < l.length ∧ (obj l (lo l id)).id = id := by
 unfold isAt at h; simpa using h
theorem Rising.isAt_mem {l : List Obj} (h : Rising l) {x : Obj} (hx : x ∈ l) : isAt l x.id = true ∧ obj l (lo l x.id) = x := by
 obtain ⟨i, hi, rfl⟩ := mem_obj hx
 exact ⟨h.isAt_self hi, by rw [h.lo_self hi]⟩
theorem joinE_zero {l : List Obj} {o : Obj} : joinE l o = 0 ↔ (isAt l o.id = true → obj l (lo l o.id) = o) := by
 unfold joinE
 by_cases h : isAt l o.id = true ∧ sameObj (obj l (lo l o.id)) o = false
 ·rw [if_pos h]
  constructor
  ·intro e; cases e
  ·intro e
   have := e h.1
   have h2 := h.2
   rw [this] at h2
   rw [(sameObj_iff o o).2 rfl] at h2; cases h2
 ·rw [if_neg h]
  refine ⟨fun _ hat => ?_, fun _ => rfl⟩
  cases hs : sameObj (obj l (lo l o.id)) o
  ·exact absurd ⟨hat, hs⟩ h
  ·exact (sameObj_iff _ _).1 hs
theorem take_snoc_obj {l : List Obj} {n : Nat} (h : n < l.length) : l.take (n + 1) = l.take n ++ [obj l n] := by
 rw [List.take_succ_eq_append_getElem h, obj_lt h]
theorem joined_mem {l more : List Obj} : ∀ {n : Nat}, n ≤ more.length → scan (joinErr l more) n = 0 → ∀ x, x ∈ joined l more n ↔ x ∈ l ∨ x ∈ more.take n
 | 0, _, _, x => by simp [joined]
 | n + 1, hn, h, x => by
  have h0 : joinErr l more n = 0 := scan_zero h n (by omega)
  have hs : scan (joinErr l more) n = 0 := scan_of_zero fun k hk => scan_zero h k (by omega)
  have ih := joined_mem (by omega) hs
  rw [take_snoc_obj hn, List.mem_append, List.mem_singleton]
  show x ∈ joinL (joined l more n) (obj more n) ↔ _
  unfold joinL
  by_cases hat : isAt (joined l more n) (obj more n).id = true
  ·rw [if_pos hat, ih x]
   have ho := (joinE_zero.1 h0) hat
   have hm : obj more n ∈ joined l more n := by rw [← ho]; exact obj_mem (isAt_spec hat).1
   have hm' := (ih _).1 hm
   constructor
   ·rintro (a | a)
    ·exact .inl a
    ·exact .inr (.inl a)
   ·rintro (a | a | a)
    ·exact .inl a
    ·exact .inr a
    ·rw [a]; exact hm'
  ·rw [if_neg hat, mem_ins, ih x]
   constructor
   ·rintro (a | a | a)
    ·exact .inr (.inr a)
    ·exact .inl a
    ·exact .inr (.inl a)
   ·rintro (a | a | a)
    ·exact .inr (.inl a)
    ·exact .inr (.inr a)
    ·exact .inl a
def Cons (l more : List Obj) : Prop := ∀ x y, (x ∈ l ∨ x ∈ more) → (y ∈ l ∨ y ∈ more) → x.id = y.id → x = y
theorem joins_ok {l more : List Obj} (hr : Rising l) : scan (joinErr l more) more.length = 0 ↔ Cons l more := by
 constructor
 ·intro h x y hx hy e
  have hm := joined_mem (Nat.le_refl _) h
  have hJ := joined_rising hr more more.length
  rw [List.take_length] at hm
  have h1 := hJ.isAt_mem ((hm x).2 hx)
  have h2 := hJ.isAt_mem ((hm y).2 hy)
  rw [← h1.2, e, h2.2]
 ·intro hc
  have : ∀ n, n ≤ more.length → scan (joinErr l more) n = 0 := by
   intro n
   induction n with
   | zero => intro _; rfl
   | succ n ih =>
    intro hn
    have hs := ih (by omega)
    refine scan_next hs (joinE_zero.2 fun hat => ?_)
    have hm := joined_mem (Nat.le_of_succ_le hn) hs
    have h1 := isAt_spec hat
    have h2 := (hm _).1 (obj_mem h1.1)
    exact hc _ _ (h2.imp id List.mem_of_mem_take) (.inr (obj_mem hn)) h1.2
  exact this _ (Nat.le_refl _)
theorem Rising.pairwise {l : List Obj} (h : Rising l) : l.Pairwise (fun x y => x.id < y.id) := by
 rw [List.pairwise_iff_getElem]
 intro i j hi hj hij
 have := h i j hij hj
 rwa [obj_lt hi, obj_lt hj] at this
theorem sorted_ext : ∀ {a b : List Obj}, a.Pairwise (fun x y => x.id < y.id) → b.Pairwise (fun x y => x.id < y.id) → (∀ x, x ∈ a ↔ x ∈ b) → a = b
 | [], [], _, _, _ => rfl
 | [], y :: b, _, _, h => absurd ((h y).2 List.mem_cons_self) (by simp)
 | x :: a, [], _, _, h => absurd ((h x).1 List.mem_cons_self) (by simp)
 | x :: a, y :: b, ha, hb, h => by
  rw [List.pairwise_cons] at ha hb
  have e : x = y := by
   rcases List.mem_cons.1 ((h x).1 List.mem_cons_self) with e | h1
   ·exact e
   ·rcases List.mem_cons.1 ((h y).2 List.mem_cons_self) with e | h2
    ·exact e.symm
    ·have := hb.1 _ h1; have := ha.1 _ h2; omega
  subst e
  rw [sorted_ext ha.2 hb.2 fun z => ⟨fun hz => ?_, fun hz => ?_⟩]
  ·rcases List.mem_cons.1 ((h z).1 (List.mem_cons_of_mem _ hz)) with e | h1
   ·subst e; have := ha.1 _ hz; omega
   ·exact h1
  ·rcases List.mem_cons.1 ((h z).2 (List.mem_cons_of_mem _ hz)) with e | h1
   ·subst e; have := hb.1 _ hz; omega
   ·exact h1
theorem Rising.ext {a b : List Obj} (ha : Rising a) (hb : Rising b) (h : ∀ x, x ∈ a ↔ x ∈ b) : a = b := sorted_ext ha.pairwise hb.pairwise h
structure AddOk (l more J : List Obj) : Prop where
 left : checkStore l = 0
 many : more.length ≤ 12
 each : ∀ o ∈ more, checkObj o = 0
 cons : Cons l more
 whole : checkStore J = 0
 mem : ∀ x, x ∈ J ↔ x ∈ l ∨ x ∈ more
theorem add_zero {l more : List Obj} : addE l more = 0 ↔ AddOk l more (joined l more more.length) := by
 unfold addE
 by_cases h1 : checkStore l = 0
 ·rw [if_neg (by simpa using h1)]
  by_cases h2 : 12 < more.length
  ·rw [if_pos h2]; exact ⟨fun e => (by cases e), fun e => (by have := e.many; omega)⟩
  ·rw [if_neg h2]
   have hr := checkStore_rising h1
   by_cases h3 : scan (fun k => checkObj (obj more k)) more.length = 0
   ·rw [if_neg (by simpa using h3)]
    unfold withE
    have he : ∀ o ∈ more, checkObj o = 0 := fun o ho => by
     obtain ⟨i, hi, rfl⟩ := mem_obj ho
     exact scan_zero h3 i hi
    by_cases h4 : scan (joinErr l more) more.length = 0
    ·rw [if_pos h4]
     refine ⟨fun e => ⟨h1, by omega, he, (joins_ok hr).1 h4, e, fun x => ?_⟩, fun e => e.whole⟩
     have := joined_mem (Nat.le_refl _) h4 x
     rwa [List.take_length] at this
    ·rw [if_neg h4]; exact ⟨fun e => absurd e h4, fun e => absurd ((joins_ok hr).2 e.cons) h4⟩
   ·rw [if_pos (by simpa using h3)]
    refine ⟨fun e => absurd e h3, fun e => absurd (scan_of_zero fun k hk => e.each _ (obj_mem hk)) h3⟩
 ·rw [if_pos (by simpa using h1)]; exact ⟨fun e => absurd e h1, fun e => absurd e.left h1⟩
theorem add_ok {l more : List Obj} (h : addE l more = 0) : AddOk l more (addL l more) := by
 have := add_zero.1 h
 unfold addL; rw [if_pos h]; exact this
end Go.Proofs.YtjdgpgfiomnjkaaGreatDoor
