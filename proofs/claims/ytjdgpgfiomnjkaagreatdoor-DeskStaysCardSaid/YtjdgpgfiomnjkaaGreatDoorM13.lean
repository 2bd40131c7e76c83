
/- DiffP: the plain law of what another one has not, objects and names. No program here. -/
import Derived.Test.YtjdgpgfiomnjkaaGreatDoorM8
import Derived.Test.YtjdgpgfiomnjkaaGreatDoorM4
import Derived.Test.YtjdgpgfiomnjkaaGreatDoorM9
import Derived.Test.YtjdgpgfiomnjkaaGreatDoorM10
import Derived.Test.YtjdgpgfiomnjkaaGreatDoorM7
import Derived.Test.YtjdgpgfiomnjkaaGreatDoorM12
namespace Go.Proofs.YtjdgpgfiomnjkaaGreatDoor
set_option linter.unusedVariables false
set_option linter.unusedSimpArgs false
def lacks (m : List Obj) (o : Obj) : Bool := !isAt m o.id
def missL (l m : List Obj) : List Obj := l.filter (lacks m)
def missTo (l m : List Obj) (k : Nat) : List Obj := (l.take k).filter (lacks m)
def missErr (l m : List Obj) (k : Nat) : Int := if isAt m (obj l k).id = true ∧ sameObj (obj l k) (obj m (lo m (obj l k).id)) = false then 6 else 0
def rawE (l m : List Obj) : Int := scan (missErr l m) l.length
def rawL (l m : List Obj) : List Obj := if rawE l m = 0 then missL l m else []
def diffE (l m : List Obj) : Int := if checkStore l ≠ 0 then checkStore l else if checkStore m ≠ 0 then checkStore m else rawE l m
def diffL (l m : List Obj) : List Obj := if diffE l m = 0 then missL l m else []
theorem missTo_zero (l m : List Obj) : missTo l m 0 = [] := rfl
theorem missTo_there {l m : List Obj} {k : Nat} (hk : k < l.length) (h : isAt m (obj l k).id = true) : missTo l m (k + 1) = missTo l m k := by
 unfold missTo lacks
 rw [take_snoc_obj hk, List.filter_append]
 simp [h]
theorem missTo_not {l m : List Obj} {k : Nat} (hk : k < l.length) (h : isAt m (obj l k).id = false) : missTo l m (k + 1) = missTo l m k ++ [obj l k] := by
 unfold missTo lacks
 rw [take_snoc_obj hk, List.filter_append]
 simp [h]
theorem missTo_end (l m : List Obj) : missTo l m l.length = missL l m := by unfold missTo missL; rw [List.take_length]
theorem missTo_length (l m : List Obj) (k : Nat) : (missTo l m k).length ≤ k := by
 unfold missTo
 have h1 := List.length_filter_le (lacks m) (l.take k)
 rw [List.length_take] at h1; omega
theorem missL_length (l m : List Obj) : (missL l m).length ≤ l.length := List.length_filter_le _ _
theorem mem_miss {l m : List Obj} {x : Obj} : x ∈ missL l m ↔ x ∈ l ∧ isAt m x.id = false := by
 unfold missL lacks; rw [List.mem_filter]; simp
theorem missErr_not {l m : List Obj} {k : Nat} (h : isAt m (obj l k).id = false) : missErr l m k = 0 := by unfold missErr; rw [if_neg (by simp [h])]
theorem missErr_same {l m : List Obj} {k : Nat} (h : sameObj (obj l k) (obj m (lo m (obj l k).id)) = true) : missErr l m k = 0 := by unfold missErr; rw [if_neg (by simp [h])]
theorem missErr_twice {l m : List Obj} {k : Nat} (h : isAt m (obj l k).id = true) (h2 : sameObj (obj l k) (obj m (lo m (obj l k).id)) = false) : missErr l m k = 6 := by unfold missErr; rw [if_pos ⟨h, h2⟩]
theorem rawE_zero {l m : List Obj} : rawE l m = 0 ↔ ∀ x ∈ l, isAt m x.id = true → obj m (lo m x.id) = x := by
 unfold rawE
 constructor
 ·intro h x hx hat
  obtain ⟨i, hi, rfl⟩ := mem_obj hx
  have := scan_zero h i hi
  cases hs : sameObj (obj l i) (obj m (lo m (obj l i).id))
  ·rw [missErr_twice hat hs] at this; cases this
  ·exact ((sameObj_iff _ _).1 hs).symm
 ·intro h
  refine scan_of_zero fun k hk => ?_
  cases hat : isAt m (obj l k).id
  ·exact missErr_not hat
  ·exact missErr_same ((sameObj_iff _ _).2 (h _ (obj_mem hk) hat).symm)
theorem link_of {l : List Obj} (h : checkStore l = 0) {x : Obj} (hx : x ∈ l) {k : Nat} (hk : k < x.links.length) : ∃ y ∈ l, y.id < x.id ∧ y.id = nth x.links k ∧ linkErr x k y.kind = 0 := by
 obtain ⟨i, hi, rfl⟩ := mem_obj hx
 obtain ⟨j, hj, hid, hk2⟩ := (right_of h).linked hi hk
 exact ⟨obj l j, obj_mem (by omega), checkStore_rising h j i hj hi, hid, hk2⟩
theorem mv_ext {u v : Mv} (h1 : u.name = v.name) (h2 : u.old = v.old) (h3 : u.new = v.new) : u = v := by cases u; cases v; cases h1; cases h2; cases h3; rfl
end Go.Proofs.YtjdgpgfiomnjkaaGreatDoor
namespace Go.Proofs.YtjdgpgfiomnjkaaGreatDoor
open Go.RowKit
set_option linter.unusedVariables false
set_option linter.unusedSimpArgs false
def sameMv (a b : Mv) : Bool := (a.name.toList == b.name.toList) && (a.old == b.old) && (a.new == b.new)
theorem sameMv_iff (a b : Mv) : sameMv a b = true ↔ a = b := by
 unfold sameMv
 simp only [Bool.and_eq_true, beq_iff_eq]
 constructor
 ·rintro ⟨⟨h1, h2⟩, h3⟩
  exact mv_ext (by have := (text_eq a.name b.name); rw [h1] at this; simpa using this) h2 h3
 ·rintro rfl; exact ⟨⟨rfl, rfl⟩, rfl⟩
set_option maxHeartbeats 1000000 in
theorem run_neq_mv (a b : Mv) (w : World) : (binOp .neq 107 (.agg #[.string a.name, .int .i64 a.old, .int .i64 a.new]) (.agg #[.string b.name, .int .i64 b.old, .int .i64 b.new])).run Tryz.prog w = .ok (.bool !sameMv a b) w := by
 have hS : Tryz.prog.underlying 107 = some (.struct (Tryz.prog.fieldsOf 107)) := by kernel_rfl
 have hp : Tryz.prog.stoodInHeld 107 = false := by kernel_rfl
 have u9 := Tryz.underlying9
 have u3 := Tryz.underlying3
 rw [run_neq_struct, show (10000 : Nat) = 9999 + 1 from rfl, run_equalIn_agg w 9999 107 _ _ hS hp]
 simp only [Program.fieldsOf, Tryz.underlying107]
 unfold sameMv
 go_simp
 by_cases h1 : a.name.toList = b.name.toList <;> by_cases h2 : a.old = b.old <;> by_cases h3 : a.new = b.new <;> simp [h1, h2, h3]
def sameMvs (xs ys : List Mv) : Bool := decide (xs.length = ys.length) && (List.range xs.length).all fun k => sameMv (mv xs k) (mv ys k)
theorem sameMvs_iff (xs ys : List Mv) : sameMvs xs ys = true ↔ xs = ys := by
 unfold sameMvs
 simp only [Bool.and_eq_true, decide_eq_true_eq, List.all_eq_true, List.mem_range, sameMv_iff]
 constructor
 ·rintro ⟨h1, h2⟩
  apply List.ext_getElem h1
  intro i hi hi2
  have := h2 i hi
  rwa [mv_lt hi, mv_lt hi2] at this
 ·rintro rfl; exact ⟨rfl, fun _ _ => rfl⟩
theorem sameMvs_len {xs ys : List Mv} (h : xs.length ≠ ys.length) : sameMvs xs ys = false := by unfold sameMvs; simp [h]
theorem sameMvs_at {xs ys : List Mv} {k : Nat} (hk : k < xs.length) (h : sameMv (mv xs k) (mv ys k) = false) : sameMvs xs ys = false := by
 cases e : sameMvs xs ys
 ·rfl
 ·rw [sameMvs_iff] at e
  subst e
  rw [(sameMv_iff _ _).2 rfl] at h; cases h
theorem sameMvs_all {xs ys : List Mv} (hl : xs.length = ys.length) (h : ∀ k, k < xs.length → sameMv (mv xs k) (mv ys k) = true) : sameMvs xs ys = true := by
 unfold sameMvs
 simp only [Bool.and_eq_true, decide_eq_true_eq, List.all_eq_true, List.mem_range]
 exact ⟨hl, h⟩
set_option maxHeartbeats 2000000 in
theorem sameUpdates_any (xs ys : List Mv) (v v' : Value) (S S' : Nat → Prop) (w : World) (h1 : MvsV S w v xs) (h2 : MvsV S' w v' ys) :
  Calls Tryz.prog 66 #[v, v'] w fun e w' => e = .returned (.bool (sameMvs xs ys)) ∧ Below w.heap.size w w' := by
 obtain ⟨a, n, cap, HN, rfl, hc1, hc2, hc8, hc⟩ := h1.open
 obtain ⟨a', n', cap', HN', rfl, hc1', hc2', hc8', hc'⟩ := h2.open
 obtain ⟨R, hR, hR1, _⟩ := cls_plain w
 have hRb := hR.below
 have hRn := hR.drewN
 by_cases hl : n = n'
 ·subst hl
  have Hall := Lib.hid (sameMvs_all (xs := xs) (ys := ys) (by rw [← HN.out, ← HN'.out]))
  go_enter Tryz.func66, Tryz.ntmps66
  go_wp2
  go_loopw [5] (fun i wr => ∃ k : Nat, k ≤ n ∧ i = .int .i64 k ∧ Hid (∀ j, j < k → sameMv (mv xs j) (mv ys j) = true) ∧ In R wr) (fun i _ => n - (intOf i).toNat)
  case atStart => exact ⟨0, by omega, rfl, fun j hj => absurd hj (by omega), hR1⟩
  case round =>
   obtain ⟨k, hk, rfl, Hs, hRw⟩ := hrel
   clear hR1
   by_cases hlt : k < n
   ·obtain ⟨b, off, rfl, hb, k0, k1, k2⟩ := hc (by omega)
    obtain ⟨b', off', rfl, hb', k0', k1', k2'⟩ := hc' (by omega)
    have x0 : ∀ x, In R x → x.cell? ⟨b, off + k * 3, none⟩ = some (.string (mv xs k).name) := fun x hx => k0 k x hlt (hRb x hx)
    have x1 : ∀ x, In R x → x.cell? ⟨b, off + k * 3 + 1, none⟩ = some (.int .i64 (mv xs k).old) := fun x hx => k1 k x hlt (hRb x hx)
    have x2 : ∀ x, In R x → x.cell? ⟨b, off + k * 3 + 2, none⟩ = some (.int .i64 (mv xs k).new) := fun x hx => k2 k x hlt (hRb x hx)
    have x0' : ∀ x, In R x → x.cell? ⟨b', off' + k * 3, none⟩ = some (.string (mv ys k).name) := fun x hx => k0' k x hlt (hRb x hx)
    have x1' : ∀ x, In R x → x.cell? ⟨b', off' + k * 3 + 1, none⟩ = some (.int .i64 (mv ys k).old) := fun x hx => k1' k x hlt (hRb x hx)
    have x2' : ∀ x, In R x → x.cell? ⟨b', off' + k * 3 + 2, none⟩ = some (.int .i64 (mv ys k).new) := fun x hx => k2' k x hlt (hRb x hx)
    clear hc hc' k0 k1 k0' k1' k2 k2'
    have hi1 : (0 : Int) ≤ (k : Int) := by omega
    have hi2 : (k : Int) < (n : Int) := by omega
    have hneq := run_neq_mv (mv xs k) (mv ys k)
    cases he : sameMv (mv xs k) (mv ys k)
    ·rw [he] at hneq
     have Hq := Lib.hid (sameMvs_at (xs := xs) (ys := ys) (k := k) (by rw [← HN.out]; exact hlt) he); clear he
     go_wp2_with fail
     go_quiet (fail)
     go_wp2
     go_ret
     exact ⟨by rw [Hq.out]; rfl, hRb _ (hRn _ _ hRw)⟩
    ·rw [he] at hneq
     have He := Lib.hid he; clear he
     go_wp2_with fail
     go_quiet (fail)
     go_wp2
     go_roundw
     case rel => exact ⟨k + 1, by omega, by go_num, all_next Hs.out He.out, hRn _ _ hRw⟩
     case measure => simp [intOf]; omega
   ·have Hk := Lib.hid (show sameMvs xs ys = true from Hall.out (fun j hj => Hs.out j (by have := HN.out; omega)))
    go_wp2
    go_ret
    exact ⟨by rw [Hk.out]; rfl, hRb _ hRw⟩
 ·have Hl := Lib.hid (sameMvs_len (xs := xs) (ys := ys) (by rw [← HN.out, ← HN'.out]; exact hl))
  go_enter Tryz.func66, Tryz.ntmps66
  go_wp2
  go_ret
  exact ⟨by rw [Hl.out]; rfl, hRb _ hR1⟩
end Go.Proofs.YtjdgpgfiomnjkaaGreatDoor
namespace Go.Proofs.YtjdgpgfiomnjkaaGreatDoor
open Go.RowKit
set_option linter.unusedVariables false
set_option linter.unusedSimpArgs false
def emptyB (p : Psh) : Bool := decide (p.objects.length = 0) && decide (p.updates.length = 0) && !p.force
def repCheck (r : Rep) : Int := if checkRefs r.refs r.store ≠ 0 then checkRefs r.refs r.store else if within r.gen 0 999 = false then 3 else if within r.phase 0 2 = false then 7 else if r.phase ≠ 0 then checkPsh r.pend else if emptyB r.pend = true then 0 else 1
def samePsh (a b : Psh) : Bool := sameStore a.objects b.objects && sameMvs a.updates b.updates && (a.force == b.force)
theorem samePsh_iff (a b : Psh) : samePsh a b = true ↔ a = b := by
 unfold samePsh
 rw [Bool.and_eq_true, Bool.and_eq_true, sameStore_iff, sameMvs_iff, beq_iff_eq]
 constructor
 ·rintro ⟨⟨h1, h2⟩, h3⟩; cases a; cases b; simp_all
 ·rintro rfl; exact ⟨⟨rfl, rfl⟩, rfl⟩
theorem samePsh_none (p : Psh) : samePsh p psh0 = emptyB p := by
 rw [Bool.eq_iff_iff, samePsh_iff]
 unfold emptyB
 obtain ⟨l, us, f⟩ := p
 cases f <;> simp [psh0, List.length_eq_zero_iff]
def sameRep (a b : Rep) : Bool := sameStore a.store b.store && sameRefs a.refs b.refs && (a.gen == b.gen) && (a.phase == b.phase) && samePsh a.pend b.pend
theorem sameRep_iff (a b : Rep) : sameRep a b = true ↔ a = b := by
 unfold sameRep
 rw [Bool.and_eq_true, Bool.and_eq_true, Bool.and_eq_true, Bool.and_eq_true, sameStore_iff, sameRefs_iff, beq_iff_eq, beq_iff_eq, samePsh_iff]
 constructor
 ·rintro ⟨⟨⟨⟨h1, h2⟩, h3⟩, h4⟩, h5⟩; cases a; cases b; simp_all
 ·rintro rfl; exact ⟨⟨⟨⟨rfl, rfl⟩, rfl⟩, rfl⟩, rfl⟩
set_option maxRecDepth 100000 in
set_option maxHeartbeats 4000000 in
theorem repCheck_any (r : Rep) (sv rv ov uv : Value) (S : Nat → Prop) (w : World) (h : RepIs S w r sv rv ov uv) :
  Calls Tryz.prog 56 #[repV r sv rv ov uv] w fun e w' => e = .returned (.int .i64 (repCheck r)) ∧ Below w.heap.size w w' := by
 have HR := Lib.hid (show repCheck r = if checkRefs r.refs r.store ≠ 0 then checkRefs r.refs r.store else if within r.gen 0 999 = false then 3 else if within r.phase 0 2 = false then 7 else if r.phase ≠ 0 then checkPsh r.pend else if emptyB r.pend = true then 0 else 1 from rfl)
 have H := Lib.hid h
 obtain ⟨sa, sc, rfl⟩ := h.store.vshape
 obtain ⟨⟨ra, rc⟩, rfl⟩ := h.refs.shape
 obtain ⟨oa, oc, rfl⟩ := h.objs.vshape
 obtain ⟨⟨ua, uc⟩, rfl⟩ := h.upds.shape
 clear h
 simp only [repV]
 obtain ⟨Q, hQ, hQ1, hy⟩ := cls_box w #[.slice sa r.store.length sc, .slice ra r.refs.length rc, .int .i64 r.gen, .int .i64 r.phase, .slice oa r.pend.objects.length oc, .slice ua r.pend.updates.length uc, .bool r.pend.force] 28
 have y0 := hy 0 _ rfl
 have y1 := hy 1 _ rfl
 have y2 := hy 2 _ rfl
 have y3 := hy 3 _ rfl
 have y4 := hy 4 _ rfl
 have y5 := hy 5 _ rfl
 have y6 := hy 6 _ rfl
 have hQb := hQ.below
 have hQn := hQ.next
 have HC := Lib.hid (fun x (hx : In Q x) => refsCheck_any r.refs r.store _ _ _ _ x (H.out.refs.below (hQb _ hx)) (H.out.store.below (hQb _ hx)))
 have HP := Lib.hid (fun x (hx : In Q x) => pushCheck_any r.pend _ _ _ _ x (H.out.objs.below (hQb _ hx)) (H.out.upds.below (hQb _ hx)))
 clear hy
 have y01 := y0 _ hQ1
 have y11 := y1 _ hQ1
 by_cases e1 : checkRefs r.refs r.store = 0
 case neg =>
  have HF := Lib.hid (show repCheck r = checkRefs r.refs r.store by rw [HR.out, if_pos e1])
  have hq : (checkRefs r.refs r.store != 0) = true := by simpa using e1
  clear e1 HR
  generalize checkRefs r.refs r.store = c at *
  go_enter Tryz.func56, Tryz.ntmps56
  go_wp2_with fail
  refine (HC.out _ hQ1).mono ?_
  rintro e w1 ⟨rfl, hb1⟩
  have hQ2 := hQn _ _ hQ1 hb1
  clear hb1 y01 y11 hQ1
  go_wp2_with fail
  go_ret
  exact ⟨ret_int HF.out.symm, hQb _ hQ2⟩
 rw [if_neg (by simpa using e1)] at HR
 rw [e1] at HC
 clear e1
 by_cases egenlo : r.gen < 0
 case pos =>
  have HF := Lib.hid (show repCheck r = 3 by rw [HR.out, if_pos (by unfold within; simp; omega)])
  have hd : decide (r.gen < 0) = true := decide_eq_true egenlo
  clear HR
  go_enter Tryz.func56, Tryz.ntmps56
  go_wp2_with fail
  refine (HC.out _ hQ1).mono ?_
  rintro e w1 ⟨rfl, hb1⟩
  have hQ2 := hQn _ _ hQ1 hb1
  have y22 := y2 _ hQ2
  have y32 := y3 _ hQ2
  have y42 := y4 _ hQ2
  have y52 := y5 _ hQ2
  have y62 := y6 _ hQ2
  clear hb1 y01 y11 hQ1
  go_wp2_with fail
  go_ret
  exact ⟨ret_int HF.out.symm, hQb _ hQ2⟩
 by_cases egenhi : 999 < r.gen
 case pos =>
  have HF := Lib.hid (show repCheck r = 3 by rw [HR.out, if_pos (by unfold within; simp; omega)])
  have hd : decide (r.gen < 0) = false := decide_eq_false egenlo
  have hd2 : decide (999 < r.gen) = true := decide_eq_true egenhi
  clear HR
  go_enter Tryz.func56, Tryz.ntmps56
  go_wp2_with fail
  refine (HC.out _ hQ1).mono ?_
  rintro e w1 ⟨rfl, hb1⟩
  have hQ2 := hQn _ _ hQ1 hb1
  have y22 := y2 _ hQ2
  have y32 := y3 _ hQ2
  have y42 := y4 _ hQ2
  have y52 := y5 _ hQ2
  have y62 := y6 _ hQ2
  clear hb1 y01 y11 hQ1
  go_wp2_with fail
  go_ret
  exact ⟨ret_int HF.out.symm, hQb _ hQ2⟩
 rw [if_neg (by unfold within; simp; omega)] at HR
 have hg1 : decide (r.gen < 0) = false := decide_eq_false egenlo
 have hg2 : decide (999 < r.gen) = false := decide_eq_false egenhi
 by_cases ephaselo : r.phase < 0
 case pos =>
  have HF := Lib.hid (show repCheck r = 7 by rw [HR.out, if_pos (by unfold within; simp; omega)])
  have hd : decide (r.phase < 0) = true := decide_eq_true ephaselo
  clear HR
  go_enter Tryz.func56, Tryz.ntmps56
  go_wp2_with fail
  refine (HC.out _ hQ1).mono ?_
  rintro e w1 ⟨rfl, hb1⟩
  have hQ2 := hQn _ _ hQ1 hb1
  have y22 := y2 _ hQ2
  have y32 := y3 _ hQ2
  have y42 := y4 _ hQ2
  have y52 := y5 _ hQ2
  have y62 := y6 _ hQ2
  clear hb1 y01 y11 hQ1
  go_wp2_with fail
  go_ret
  exact ⟨ret_int HF.out.symm, hQb _ hQ2⟩
 by_cases ephasehi : 2 < r.phase
 case pos =>
  have HF := Lib.hid (show repCheck r = 7 by rw [HR.out, if_pos (by unfold within; simp; omega)])
  have hd : decide (r.phase < 0) = false := decide_eq_false ephaselo
  have hd2 : decide (2 < r.phase) = true := decide_eq_true ephasehi
  clear HR
  go_enter Tryz.func56, Tryz.ntmps56
  go_wp2_with fail
  refine (HC.out _ hQ1).mono ?_
  rintro e w1 ⟨rfl, hb1⟩
  have hQ2 := hQn _ _ hQ1 hb1
  have y22 := y2 _ hQ2
  have y32 := y3 _ hQ2
  have y42 := y4 _ hQ2
  have y52 := y5 _ hQ2
  have y62 := y6 _ hQ2
  clear hb1 y01 y11 hQ1
  go_wp2_with fail
  go_ret
  exact ⟨ret_int HF.out.symm, hQb _ hQ2⟩
 rw [if_neg (by unfold within; simp; omega)] at HR
 have hp1 : decide (r.phase < 0) = false := decide_eq_false ephaselo
 have hp2 : decide (2 < r.phase) = false := decide_eq_false ephasehi
 by_cases e3 : r.phase = 0
 case neg =>
  have HF := Lib.hid (show repCheck r = checkPsh r.pend by rw [HR.out, if_pos e3])
  have hq : (r.phase != 0) = true := by simpa using e3
  have hd : decide (0 < r.phase) = true := decide_eq_true (by omega)
  clear HR e3
  go_enter Tryz.func56, Tryz.ntmps56
  go_wp2_with fail
  refine (HC.out _ hQ1).mono ?_
  rintro e w1 ⟨rfl, hb1⟩
  have hQ2 := hQn _ _ hQ1 hb1
  have y22 := y2 _ hQ2
  have y32 := y3 _ hQ2
  have y42 := y4 _ hQ2
  have y52 := y5 _ hQ2
  have y62 := y6 _ hQ2
  clear hb1 y01 y11 hQ1
  go_wp2_with fail
  refine (HP.out _ hQ2).mono ?_
  rintro e w3 ⟨rfl, hb3⟩
  have hQ3 := hQn _ _ hQ2 hb3
  go_wp2_with fail
  go_ret
  exact ⟨ret_int HF.out.symm, hQb _ hQ3⟩
 rw [if_neg (by simpa using e3)] at HR
 have hq : (r.phase != 0) = false := by simpa using e3
 have hd : decide (0 < r.phase) = false := decide_eq_false (by omega)
 clear e3 HP
 generalize hnp : r.pend.objects.length = np at *
 generalize hnu : r.pend.updates.length = nu at *
 by_cases f1 : np = 0
 case neg =>
  have HF := Lib.hid (show repCheck r = 1 by rw [HR.out, if_neg (by unfold emptyB; rw [hnp, hnu]; simp; omega)])
  clear HR
  go_enter Tryz.func56, Tryz.ntmps56
  go_wp2_with fail
  refine (HC.out _ hQ1).mono ?_
  rintro e w1 ⟨rfl, hb1⟩
  have hQ2 := hQn _ _ hQ1 hb1
  have y22 := y2 _ hQ2
  have y32 := y3 _ hQ2
  have y42 := y4 _ hQ2
  have y52 := y5 _ hQ2
  have y62 := y6 _ hQ2
  clear hb1 y01 y11 hQ1
  go_wp2_with fail
  go_ret
  exact ⟨ret_int HF.out.symm, hQb _ hQ2⟩
 subst f1
 by_cases f2 : nu = 0
 case neg =>
  have HF := Lib.hid (show repCheck r = 1 by rw [HR.out, if_neg (by unfold emptyB; rw [hnp, hnu]; simp; omega)])
  clear HR
  go_enter Tryz.func56, Tryz.ntmps56
  go_wp2_with fail
  refine (HC.out _ hQ1).mono ?_
  rintro e w1 ⟨rfl, hb1⟩
  have hQ2 := hQn _ _ hQ1 hb1
  have y22 := y2 _ hQ2
  have y32 := y3 _ hQ2
  have y42 := y4 _ hQ2
  have y52 := y5 _ hQ2
  have y62 := y6 _ hQ2
  clear hb1 y01 y11 hQ1
  go_wp2_with fail
  go_ret
  exact ⟨ret_int HF.out.symm, hQb _ hQ2⟩
 subst f2
 cases f3 : r.pend.force
 ·have HF := Lib.hid (show repCheck r = 0 by rw [HR.out]; unfold emptyB; rw [hnp, hnu, f3]; simp)
  rw [f3] at y6 hQ1 y01 y11
  clear HR
  go_enter Tryz.func56, Tryz.ntmps56
  go_wp2_with fail
  refine (HC.out _ hQ1).mono ?_
  rintro e w1 ⟨rfl, hb1⟩
  have hQ2 := hQn _ _ hQ1 hb1
  have y22 := y2 _ hQ2
  have y32 := y3 _ hQ2
  have y42 := y4 _ hQ2
  have y52 := y5 _ hQ2
  have y62 := y6 _ hQ2
  clear hb1 y01 y11 hQ1
  go_wp2_with fail
  go_ret
  exact ⟨ret_int HF.out.symm, hQb _ hQ2⟩
 ·have HF := Lib.hid (show repCheck r = 1 by rw [HR.out]; unfold emptyB; rw [hnp, hnu, f3]; simp)
  rw [f3] at y6 hQ1 y01 y11
  clear HR
  go_enter Tryz.func56, Tryz.ntmps56
  go_wp2_with fail
  refine (HC.out _ hQ1).mono ?_
  rintro e w1 ⟨rfl, hb1⟩
  have hQ2 := hQn _ _ hQ1 hb1
  have y22 := y2 _ hQ2
  have y32 := y3 _ hQ2
  have y42 := y4 _ hQ2
  have y52 := y5 _ hQ2
  have y62 := y6 _ hQ2
  clear hb1 y01 y11 hQ1
  go_wp2_with fail
  go_ret
  exact ⟨ret_int HF.out.symm, hQb _ hQ2⟩
set_option maxRecDepth 100000 in
set_option maxHeartbeats 4000000 in
theorem samePush_any (p q : Psh) (ov uv ov2 uv2 : Value) (S S' : Nat → Prop) (w : World) (ho : StoreV S w ov p.objects) (hu : MvsV S w uv p.updates) (ho2 : StoreV S' w ov2 q.objects) (hu2 : MvsV S' w uv2 q.updates) :
  Calls Tryz.prog 33 #[pshV p ov uv, pshV q ov2 uv2] w fun e w' => e = .returned (.bool (samePsh p q)) ∧ Below w.heap.size w w' := by
 have HD := Lib.hid (show samePsh p q = (sameStore p.objects q.objects && sameMvs p.updates q.updates && (p.force == q.force)) from rfl)
 have Ho := Lib.hid ho
 have Hu := Lib.hid hu
 have Ho2 := Lib.hid ho2
 have Hu2 := Lib.hid hu2
 obtain ⟨oa, oc, rfl⟩ := ho.vshape
 obtain ⟨⟨ua, uc⟩, rfl⟩ := hu.shape
 obtain ⟨oa2, oc2, rfl⟩ := ho2.vshape
 obtain ⟨⟨ua2, uc2⟩, rfl⟩ := hu2.shape
 clear ho hu ho2 hu2
 simp only [pshV]
 obtain ⟨Q, hQ, hQ1, hy, hz⟩ := cls_two w #[.slice oa p.objects.length oc, .slice ua p.updates.length uc, .bool p.force] #[.slice oa2 q.objects.length oc2, .slice ua2 q.updates.length uc2, .bool q.force] 26 26
 have hQb := hQ.below
 have hQn := hQ.next
 have H1 := Lib.hid (fun x (hx : In Q x) => sameStore_any p.objects q.objects _ _ _ _ x (Ho.out.below (hQb _ hx)) (Ho2.out.below (hQb _ hx)))
 have H2 := Lib.hid (fun x (hx : In Q x) => sameUpdates_any p.updates q.updates _ _ _ _ x (Hu.out.below (hQb _ hx)) (Hu2.out.below (hQb _ hx)))
 have y0 := hy 0 _ rfl _ hQ1
 have z0 := hz 0 _ rfl _ hQ1
 have y1 := hy 1 _ rfl
 have z1 := hz 1 _ rfl
 have y2 := hy 2 _ rfl
 have z2 := hz 2 _ rfl
 clear hy hz
 cases s1 : sameStore p.objects q.objects
 ·rw [s1] at H1 HD
  go_enter Tryz.func33, Tryz.ntmps33
  go_wp2_with fail
  refine (H1.out _ hQ1).mono ?_
  rintro e w1 ⟨rfl, hb1⟩
  have hQ2 := hQn _ _ hQ1 hb1
  go_wp2_with fail
  go_ret
  exact ⟨by rw [HD.out]; rfl, hQb _ hQ2⟩
 ·rw [s1] at H1 HD
  cases s2 : sameMvs p.updates q.updates
  ·rw [s2] at H2 HD
   go_enter Tryz.func33, Tryz.ntmps33
   go_wp2_with fail
   refine (H1.out _ hQ1).mono ?_
   rintro e w1 ⟨rfl, hb1⟩
   have hQ2 := hQn _ _ hQ1 hb1
   have y12 := y1 _ hQ2
   have z12 := z1 _ hQ2
   go_wp2_with fail
   refine (H2.out _ hQ2).mono ?_
   rintro e w2 ⟨rfl, hb2⟩
   have hQ3 := hQn _ _ hQ2 hb2
   go_wp2_with fail
   go_ret
   exact ⟨by rw [HD.out]; rfl, hQb _ hQ3⟩
  ·rw [s2] at H2 HD
   go_enter Tryz.func33, Tryz.ntmps33
   go_wp2_with fail
   refine (H1.out _ hQ1).mono ?_
   rintro e w1 ⟨rfl, hb1⟩
   have hQ2 := hQn _ _ hQ1 hb1
   have y12 := y1 _ hQ2
   have z12 := z1 _ hQ2
   go_wp2_with fail
   refine (H2.out _ hQ2).mono ?_
   rintro e w2 ⟨rfl, hb2⟩
   have hQ3 := hQn _ _ hQ2 hb2
   have y23 := y2 _ hQ3
   have z23 := z2 _ hQ3
   go_wp2_with fail
   go_ret
   exact ⟨by rw [HD.out]; rfl, hQb _ hQ3⟩
set_option maxRecDepth 100000 in
set_option maxHeartbeats 4000000 in
theorem sameReplica_any (p q : Rep) (sv rv ov uv sv2 rv2 ov2 uv2 : Value) (S S' : Nat → Prop) (w : World) (h : RepIs S w p sv rv ov uv) (h2 : RepIs S' w q sv2 rv2 ov2 uv2) :
  Calls Tryz.prog 32 #[repV p sv rv ov uv, repV q sv2 rv2 ov2 uv2] w fun e w' => e = .returned (.bool (sameRep p q)) ∧ Below w.heap.size w w' := by
 have HD := Lib.hid (show sameRep p q = (sameStore p.store q.store && sameRefs p.refs q.refs && (p.gen == q.gen) && (p.phase == q.phase) && samePsh p.pend q.pend) from rfl)
 have H := Lib.hid h
 have G := Lib.hid h2
 obtain ⟨sa, sc, rfl⟩ := h.store.vshape
 obtain ⟨⟨ra, rc⟩, rfl⟩ := h.refs.shape
 obtain ⟨oa, oc, rfl⟩ := h.objs.vshape
 obtain ⟨⟨ua, uc⟩, rfl⟩ := h.upds.shape
 obtain ⟨sa2, sc2, rfl⟩ := h2.store.vshape
 obtain ⟨⟨ra2, rc2⟩, rfl⟩ := h2.refs.shape
 obtain ⟨oa2, oc2, rfl⟩ := h2.objs.vshape
 obtain ⟨⟨ua2, uc2⟩, rfl⟩ := h2.upds.shape
 clear h h2
 simp only [repV]
 obtain ⟨Q, hQ, hQ1, hy, hz⟩ := cls_two w #[.slice sa p.store.length sc, .slice ra p.refs.length rc, .int .i64 p.gen, .int .i64 p.phase, .slice oa p.pend.objects.length oc, .slice ua p.pend.updates.length uc, .bool p.pend.force]
  #[.slice sa2 q.store.length sc2, .slice ra2 q.refs.length rc2, .int .i64 q.gen, .int .i64 q.phase, .slice oa2 q.pend.objects.length oc2, .slice ua2 q.pend.updates.length uc2, .bool q.pend.force] 28 28
 have hQb := hQ.below
 have hQn := hQ.next
 have H1 := Lib.hid (fun x (hx : In Q x) => sameStore_any p.store q.store _ _ _ _ x (H.out.store.below (hQb _ hx)) (G.out.store.below (hQb _ hx)))
 have H2 := Lib.hid (fun x (hx : In Q x) => sameRefs_any p.refs q.refs _ _ _ _ x (H.out.refs.below (hQb _ hx)) (G.out.refs.below (hQb _ hx)))
 have H3 := Lib.hid (fun x (hx : In Q x) => samePush_any p.pend q.pend _ _ _ _ _ _ x (H.out.objs.below (hQb _ hx)) (H.out.upds.below (hQb _ hx)) (G.out.objs.below (hQb _ hx)) (G.out.upds.below (hQb _ hx)))
 simp only [pshV] at H3
 have y0 := hy 0 _ rfl _ hQ1
 have z0 := hz 0 _ rfl _ hQ1
 have y1 := hy 1 _ rfl
 have z1 := hz 1 _ rfl
 have y2 := hy 2 _ rfl
 have z2 := hz 2 _ rfl
 have y3 := hy 3 _ rfl
 have z3 := hz 3 _ rfl
 have y4 := hy 4 _ rfl
 have z4 := hz 4 _ rfl
 have y5 := hy 5 _ rfl
 have z5 := hz 5 _ rfl
 have y6 := hy 6 _ rfl
 have z6 := hz 6 _ rfl
 clear hy hz
 cases s1 : sameStore p.store q.store
 ·rw [s1] at H1 HD
  go_enter Tryz.func32, Tryz.ntmps32
  go_wp2_with fail
  refine (H1.out _ hQ1).mono ?_
  rintro e w1 ⟨rfl, hbw1⟩
  have hQ2 := hQn _ _ hQ1 hbw1
  go_wp2_with fail
  go_ret
  exact ⟨by rw [HD.out]; rfl, hQb _ hQ2⟩
 ·rw [s1] at H1 HD
  cases s2 : sameRefs p.refs q.refs
  ·rw [s2] at H2 HD
   go_enter Tryz.func32, Tryz.ntmps32
   go_wp2_with fail
   refine (H1.out _ hQ1).mono ?_
   rintro e w1 ⟨rfl, hbw1⟩
   have hQ2 := hQn _ _ hQ1 hbw1
   have y1zhQ2 := y1 _ hQ2
   have z1zhQ2 := z1 _ hQ2
   go_wp2_with fail
   refine (H2.out _ hQ2).mono ?_
   rintro e w2 ⟨rfl, hbw2⟩
   have hQ3 := hQn _ _ hQ2 hbw2
   go_wp2_with fail
   go_ret
   exact ⟨by rw [HD.out]; rfl, hQb _ hQ3⟩
  ·rw [s2] at H2 HD
   cases s3 : (p.gen == q.gen)
   ·rw [s3] at HD
    go_enter Tryz.func32, Tryz.ntmps32
    go_wp2_with fail
    refine (H1.out _ hQ1).mono ?_
    rintro e w1 ⟨rfl, hbw1⟩
    have hQ2 := hQn _ _ hQ1 hbw1
    have y1zhQ2 := y1 _ hQ2
    have z1zhQ2 := z1 _ hQ2
    go_wp2_with fail
    refine (H2.out _ hQ2).mono ?_
    rintro e w2 ⟨rfl, hbw2⟩
    have hQ3 := hQn _ _ hQ2 hbw2
    have y2zhQ3 := y2 _ hQ3
    have z2zhQ3 := z2 _ hQ3
    go_wp2_with fail
    go_ret
    exact ⟨by rw [HD.out]; rfl, hQb _ hQ3⟩
   ·rw [s3] at HD
    cases s4 : (p.phase == q.phase)
    ·rw [s4] at HD
     go_enter Tryz.func32, Tryz.ntmps32
     go_wp2_with fail
     refine (H1.out _ hQ1).mono ?_
     rintro e w1 ⟨rfl, hbw1⟩
     have hQ2 := hQn _ _ hQ1 hbw1
     have y1zhQ2 := y1 _ hQ2
     have z1zhQ2 := z1 _ hQ2
     go_wp2_with fail
     refine (H2.out _ hQ2).mono ?_
     rintro e w2 ⟨rfl, hbw2⟩
     have hQ3 := hQn _ _ hQ2 hbw2
     have y2zhQ3 := y2 _ hQ3
     have z2zhQ3 := z2 _ hQ3
     have y3zhQ3 := y3 _ hQ3
     have z3zhQ3 := z3 _ hQ3
     go_wp2_with fail
     go_ret
     exact ⟨by rw [HD.out]; rfl, hQb _ hQ3⟩
    ·rw [s4] at HD
     go_enter Tryz.func32, Tryz.ntmps32
     go_wp2_with fail
     refine (H1.out _ hQ1).mono ?_
     rintro e w1 ⟨rfl, hbw1⟩
     have hQ2 := hQn _ _ hQ1 hbw1
     have y1zhQ2 := y1 _ hQ2
     have z1zhQ2 := z1 _ hQ2
     go_wp2_with fail
     refine (H2.out _ hQ2).mono ?_
     rintro e w2 ⟨rfl, hbw2⟩
     have hQ3 := hQn _ _ hQ2 hbw2
     have y2zhQ3 := y2 _ hQ3
     have z2zhQ3 := z2 _ hQ3
     have y3zhQ3 := y3 _ hQ3
     have z3zhQ3 := z3 _ hQ3
     have y4zhQ3 := y4 _ hQ3
     have z4zhQ3 := z4 _ hQ3
     have y5zhQ3 := y5 _ hQ3
     have z5zhQ3 := z5 _ hQ3
     have y6zhQ3 := y6 _ hQ3
     have z6zhQ3 := z6 _ hQ3
     go_wp2_with fail
     refine (H3.out _ hQ3).mono ?_
     rintro e w3 ⟨rfl, hbw3⟩
     have hQ4 := hQn _ _ hQ3 hbw3
     go_wp2_with fail
     go_ret
     exact ⟨by rw [HD.out]; rfl, hQb _ hQ4⟩
end Go.Proofs.YtjdgpgfiomnjkaaGreatDoor
namespace Go.Proofs.YtjdgpgfiomnjkaaGreatDoor
open Go.RowKit
set_option linter.unusedVariables false
set_option linter.unusedSimpArgs false
theorem RefsV.bytes {S : Nat → Prop} {w : World} {v : Value} {l : List Rf} (h : RefsV S w v l) : l.length * 24 ≤ 140737488351232 :=
 let ⟨⟨_, _, _, _, _, h3, _⟩, _⟩ := h; h3
def RetRepE (w w' : World) (e : Ending) (r : Rep) (c : Int) : Prop := ∃ sv rv ov uv, e = .returned (.tuple #[repV r sv rv ov uv, .int .i64 c]) ∧ RepIs (fun _ => True) w' r sv rv ov uv ∧ Below w.heap.size w w'
def RetRepF (w w' : World) (e : Ending) (r : Rep) (c : Int) : Prop := ∃ sv rv ov uv, e = .returned (.tuple #[repV r sv rv ov uv, .int .i64 c]) ∧ RepIs (fun b => w.heap.size ≤ b) w' r sv rv ov uv ∧ Below w.heap.size w w'
theorem RetRepF.e {w w' : World} {e : Ending} {r : Rep} {c : Int} (h : RetRepF w w' e r c) : RetRepE w w' e r c := let ⟨_, _, _, _, h1, h2, h3⟩ := h; ⟨_, _, _, _, h1, h2.weaken fun _ _ => trivial, h3⟩
def RetRepA (A : Nat → Prop) (w w' : World) (e : Ending) (r : Rep) (c : Int) : Prop := ∃ sv rv ov uv, e = .returned (.tuple #[repV r sv rv ov uv, .int .i64 c]) ∧ RepIs (fun b => A b ∨ w.heap.size ≤ b) w' r sv rv ov uv ∧ Below w.heap.size w w'
theorem RetRepA.e {A : Nat → Prop} {w w' : World} {e : Ending} {r : Rep} {c : Int} (h : RetRepA A w w' e r c) : RetRepE w w' e r c := let ⟨_, _, _, _, h1, h2, h3⟩ := h; ⟨_, _, _, _, h1, h2.weaken fun _ _ => trivial, h3⟩
theorem rep0_is (S : Nat → Prop) (w : World) : RepIs S w rep0 (.slice none 0 0) (.slice none 0 0) (.slice none 0 0) (.slice none 0 0) :=
 ⟨StoreV.nil _ _ _ _ (by omega), RefsV.nil _ _ _ _ (by omega), StoreV.nil _ _ _ _ (by omega), MvsV.nil _ _ _ _ (by omega), by unfold I64; decide, by unfold I64; decide⟩
def zero7 : Array Value := #[.slice none 0 0, .slice none 0 0, .int .i64 0, .int .i64 0, .slice none 0 0, .slice none 0 0, .bool false]
theorem foldl_below : ∀ (os : List Go.Obj) (w : World), Below w.heap.size w (os.foldl World.alloc w)
 | [], w => Below.refl _ _
 | o :: os, w => Below.trans ((Below.refl w.heap.size w).alloc (Nat.le_refl _) o) ((foldl_below os (w.alloc o)).mono (by simp))
theorem foldl_size : ∀ (os : List Go.Obj) (w : World), (os.foldl World.alloc w).heap.size = w.heap.size + os.length
 | [], w => rfl
 | o :: os, w => by rw [List.foldl_cons, foldl_size os]; simp; omega
theorem foldl_get : ∀ (os : List Go.Obj) (w : World) (j : Nat) (o : Go.Obj), os[j]? = some o → (os.foldl World.alloc w).heap[w.heap.size + j]? = some o
 | [], w, j, o, h => by simp at h
 | o' :: os, w, 0, o, h => by
  obtain rfl : o' = o := by simpa using h
  rw [List.foldl_cons, (foldl_below os (w.alloc o')).block _ (by simp)]
  exact heap_alloc_new w o'
 | o' :: os, w, j + 1, o, h => by
  have := foldl_get os (w.alloc o') j o (by simpa using h)
  rw [List.foldl_cons, show w.heap.size + (j + 1) = (w.alloc o').heap.size + j by simp; omega]
  exact this
theorem cls_allocs (w : World) (os : List Go.Obj) : ∃ R : World → Prop, Cls w R ∧ In R (os.foldl World.alloc w) ∧ ∀ x, In R x → ∀ j o, os[j]? = some o → x.heap[w.heap.size + j]? = some o := by
 refine ⟨_, cls_of w (os.foldl World.alloc w) (w.heap.size + os.length) (by omega) (by rw [foldl_size]; exact Nat.le_refl _) (foldl_below os w), Below.refl _ _, fun x hx j o hj => ?_⟩
 have hlt := (List.getElem?_eq_some_iff.1 hj).1
 rw [Below.block hx _ (by omega)]
 exact foldl_get os w j o hj
theorem RepIs.lt {S : Nat → Prop} {w : World} {r : Rep} {sv rv ov uv : Value} (h : RepIs S w r sv rv ov uv) : RepIs (fun b => S b ∧ b < w.heap.size) w r sv rv ov uv :=
 ⟨h.store.lt, h.refs.lt, h.objs.lt, h.upds.lt, h.gen, h.phase⟩
theorem RepIs.upd {S T : Nat → Prop} {w w' : World} {r : Rep} {sv rv ov uv : Value} (h : RepIs S w r sv rv ov uv) (hu : Upd T w w') (hT : ∀ b, S b → ¬ T b) : RepIs S w' r sv rv ov uv :=
 ⟨h.store.upd' hu hT, h.refs.upd hu hT, h.objs.upd' hu hT, h.upds.upd hu hT, h.gen, h.phase⟩
theorem repCheck_store {r : Rep} (h : repCheck r = 0) : checkStore r.store = 0 := by
 unfold repCheck at h
 split at h
 ·rename_i h1; exact absurd h h1
 ·rename_i h1
  have h2 : checkRefs r.refs r.store = 0 := by simpa using h1
  unfold checkRefs at h2
  split at h2
  ·rename_i h3; exact absurd h2 h3
  ·rename_i h3; simpa using h3
end Go.Proofs.YtjdgpgfiomnjkaaGreatDoor
namespace Go.Proofs.YtjdgpgfiomnjkaaGreatDoor
open Go.RowKit
set_option linter.unusedVariables false
set_option linter.unusedSimpArgs false
def idleR (r : Rep) : Rep := ⟨r.store, r.refs, r.gen, 0, psh0⟩
def inE (r : Rep) (ph : Int) : Int := if repCheck r ≠ 0 then repCheck r else if r.phase ≠ ph then 4 else 0
def heldR (r : Rep) (p : Psh) : Rep := ⟨r.store, r.refs, r.gen, 1, p⟩
def prepE (r : Rep) (p : Psh) : Int := if inE r 0 ≠ 0 then inE r 0 else checkPsh p
def prepR (r : Rep) (p : Psh) : Rep := if prepE r p = 0 then heldR r p else rep0
def votedR (r : Rep) : Rep := ⟨r.store, r.refs, r.gen, 2, r.pend⟩
def votR (r : Rep) : Rep := if inE r 1 = 0 then votedR r else rep0
def votS (r : Rep) : ByteArray := if inE r 1 = 0 then voteR r r.pend else ByteArray.empty
def commE (r : Rep) : Int := if tryE r r.pend ≠ 0 then tryE r r.pend else if r.gen = 999 then 2 else 0
def doneR (r : Rep) (p : Psh) : Rep := ⟨tryL r p, tryM r p, r.gen + 1, 0, psh0⟩
def endE (r : Rep) (commit : Bool) : Int := if commit = true then commE r else 0
def endR (r : Rep) (commit : Bool) : Rep := if commit = true then doneR r r.pend else idleR r
def finE (r : Rep) (commit : Bool) : Int := if inE r 2 ≠ 0 then inE r 2 else endE r commit
def finR (r : Rep) (commit : Bool) : Rep := if finE r commit = 0 then endR r commit else rep0
def craR (r : Rep) : Rep := if repCheck r = 0 then idleR r else rep0
theorem inE_zero {r : Rep} {ph : Int} (h : inE r ph = 0) : repCheck r = 0 ∧ r.phase = ph := by
 unfold inE at h
 by_cases h1 : repCheck r = 0
 ·rw [if_neg (by simpa using h1)] at h
  by_cases h2 : r.phase = ph
  ·exact ⟨h1, h2⟩
  ·rw [if_pos h2] at h; cases h
 ·rw [if_pos h1] at h; exact absurd h h1
theorem inE_ok {r : Rep} {ph : Int} (h1 : repCheck r = 0) (h2 : r.phase = ph) : inE r ph = 0 := by
 unfold inE; rw [if_neg (by simpa using h1), if_neg (by simpa using h2)]
theorem inE_bad {r : Rep} {ph : Int} (h1 : repCheck r = 0) (h2 : r.phase ≠ ph) : inE r ph = 4 := by
 unfold inE; rw [if_neg (by simpa using h1), if_pos h2]
theorem inE_wrong {r : Rep} {ph : Int} (h1 : repCheck r ≠ 0) : inE r ph = repCheck r := by unfold inE; rw [if_pos h1]
structure RightR (r : Rep) : Prop where
 refs : checkRefs r.refs r.store = 0
 gen : 0 ≤ r.gen ∧ r.gen ≤ 999
 phase : 0 ≤ r.phase ∧ r.phase ≤ 2
 held : r.phase ≠ 0 → checkPsh r.pend = 0
 none : r.phase = 0 → r.pend = psh0
theorem rep_right {r : Rep} : repCheck r = 0 ↔ RightR r := by
 unfold repCheck
 constructor
 ·intro h
  split at h
  ·rename_i h1; exact absurd h h1
  ·rename_i h1
   split at h
   ·cases h
   ·rename_i h2
    split at h
    ·cases h
    ·rename_i h3
     refine ⟨by simpa using h1, within_true (by simpa using h2), within_true (by simpa using h3), fun hp => ?_, fun hp => ?_⟩
     ·rw [if_pos hp] at h; exact h
     ·rw [if_neg (by simpa using hp)] at h
      split at h
      ·rename_i h4
       rw [← samePsh_none] at h4
       exact (samePsh_iff _ _).1 h4
      ·cases h
 ·intro h
  rw [if_neg (by simpa using h.refs), if_neg (by simp [within, h.gen.1, h.gen.2]), if_neg (by simp [within, h.phase.1, h.phase.2])]
  by_cases hp : r.phase = 0
  ·rw [if_neg (by simpa using hp), h.none hp, if_pos (by simp [emptyB, psh0])]
  ·rw [if_pos hp]; exact h.held hp
theorem idle_right {r : Rep} (h : RightR r) : RightR (idleR r) := ⟨h.refs, h.gen, ⟨by simp [idleR], by simp [idleR]⟩, fun hp => absurd rfl hp, fun _ => rfl⟩
theorem held_right {r : Rep} {p : Psh} (h : RightR r) (hp : checkPsh p = 0) : RightR (heldR r p) := ⟨h.refs, h.gen, ⟨by simp [heldR], by simp [heldR]⟩, fun _ => hp, fun h0 => by simp [heldR] at h0⟩
theorem voted_right {r : Rep} (h : RightR r) (hp : checkPsh r.pend = 0) : RightR (votedR r) := ⟨h.refs, h.gen, ⟨by simp [votedR], by simp [votedR]⟩, fun _ => hp, fun h0 => by simp [votedR] at h0⟩
theorem done_right {r : Rep} {p : Psh} (h : RightR r) (ht : tryE r p = 0) (hg : r.gen ≠ 999) : RightR (doneR r p) := by
 have hT := try_ok ht
 refine ⟨?_, by have := h.gen; simp only [doneR]; omega, ⟨by simp [doneR], by simp [doneR]⟩, fun hp => absurd rfl hp, fun _ => rfl⟩
 show checkRefs (tryM r p) (tryL r p) = 0
 unfold checkRefs
 rw [if_neg (by simpa using hT.store)]; exact hT.right
theorem idle_same {r : Rep} (h : RightR r) (hp : r.phase = 0) : idleR r = r := by
 have := h.none hp
 unfold idleR
 rw [← this, ← hp]
theorem prep_zero {r : Rep} {p : Psh} (h : prepE r p = 0) : RightR r ∧ r.phase = 0 ∧ checkPsh p = 0 ∧ prepR r p = heldR r p := by
 have hR : prepR r p = heldR r p := by unfold prepR; rw [if_pos h]
 unfold prepE at h
 by_cases h1 : inE r 0 = 0
 ·rw [if_neg (by simpa using h1)] at h
  exact ⟨rep_right.1 (inE_zero h1).1, (inE_zero h1).2, h, hR⟩
 ·rw [if_pos h1] at h; exact absurd h h1
structure ApartR (r : Rep) (p : Psh) : Prop where
 a : prepR r p = heldR r p
 vot : inE (heldR r p) 1 = 0 ∧ votR (heldR r p) = votedR (heldR r p) ∧ votS (heldR r p) = voteR r p
 same : voteR r p ≠ ByteArray.empty
 ca : repCheck (heldR r p) = 0 ∧ craR (heldR r p) = r
 cb : repCheck (votedR (heldR r p)) = 0 ∧ craR (votedR (heldR r p)) = r
 fin : finE (votedR (heldR r p)) false = 0 ∧ finR (votedR (heldR r p)) false = r
theorem vote_some (r : Rep) (p : Psh) : voteR r p ≠ ByteArray.empty := by
 intro h
 have h1 : (voteR r p).size = 0 := by rw [h]; rfl
 by_cases ht : tryE r p = 0
 ·have := (vote_yes ht).1; omega
 ·have := vote_no ht; omega
theorem apart {r : Rep} {p : Psh} (h : prepE r p = 0) : ApartR r p := by
 obtain ⟨hr, h0, hp, hR⟩ := prep_zero h
 have hh := held_right hr hp
 have hv : RightR (votedR (heldR r p)) := voted_right hh hp
 have e1 : inE (heldR r p) 1 = 0 := inE_ok (rep_right.2 hh) rfl
 have e2 : inE (votedR (heldR r p)) 2 = 0 := inE_ok (rep_right.2 hv) rfl
 have ei : idleR r = r := idle_same hr h0
 refine ⟨hR, ⟨e1, by unfold votR; rw [if_pos e1], by unfold votS; rw [if_pos e1]; rfl⟩, vote_some r p, ⟨rep_right.2 hh, by unfold craR; rw [if_pos (rep_right.2 hh)]; exact ei⟩, ⟨rep_right.2 hv, by unfold craR; rw [if_pos (rep_right.2 hv)]; exact ei⟩, ?_⟩
 have ef : finE (votedR (heldR r p)) false = 0 := by unfold finE; rw [if_neg (by simpa using e2)]; rfl
 exact ⟨ef, by unfold finR; rw [if_pos ef]; exact ei⟩
theorem steps {r : Rep} {p : Psh} (h : prepE r p = 0) : finE (votedR (heldR r p)) true = (if tryE r p ≠ 0 then tryE r p else if r.gen = 999 then 2 else 0) ∧
  (tryE r p = 0 → r.gen ≠ 999 → finR (votedR (heldR r p)) true = doneR r p ∧ repCheck (doneR r p) = 0) := by
 obtain ⟨hr, h0, hp, hR⟩ := prep_zero h
 have hv : RightR (votedR (heldR r p)) := voted_right (held_right hr hp) hp
 have e2 : inE (votedR (heldR r p)) 2 = 0 := inE_ok (rep_right.2 hv) rfl
 have ef : finE (votedR (heldR r p)) true = (if tryE r p ≠ 0 then tryE r p else if r.gen = 999 then 2 else 0) := by
  unfold finE; rw [if_neg (by simpa using e2)]; rfl
 refine ⟨ef, fun ht hg => ⟨?_, rep_right.2 (done_right hr ht hg)⟩⟩
 unfold finR
 rw [if_pos (by rw [ef, if_neg (by simpa using ht), if_neg hg])]; rfl
end Go.Proofs.YtjdgpgfiomnjkaaGreatDoor
