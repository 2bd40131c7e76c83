
/- Walks: refs moved: each, Raw, Apply; the reference's IdOf, with, MovedOf, ApplyOf. -/
import Derived.Test.YtjdgpgfiomnjkaaGreatDoorQ13
import Derived.Laws.StructEq
namespace Go.Proofs.YtjdgpgfiomnjkaaGreatDoor
open Go.RowKit
set_option linter.unusedVariables false
set_option linter.unusedSimpArgs false
set_option linter.unusedSectionVars false
variable [Ghost]
structure DoesU (g : Nat) (f : Array Value) (l : List Mv) (w0 : World) (I : Nat → World → Prop) (err : Nat → Int) : Prop where
 enter : ∀ args w, (callFunc g args).run Tryz.prog w = .ok (.enter g args) w
 below : ∀ k x, I k x → Below w0.heap.size w0 x
 next : ∀ k x y, I k x → Below x.heap.size x y → I k y
 step : ∀ k x, k < l.length → scan err k = 0 → I k x →
  Calls Tryz.prog g (f ++ #[.agg #[.string (mv l k).name, .int .i64 (mv l k).old, .int .i64 (mv l k).new]]) x fun e w' => e = .returned (.int .i64 (err k)) ∧ Below w0.heap.size w0 w' ∧ (err k = 0 → I (k + 1) w')
set_option maxRecDepth 100000 in
set_option maxHeartbeats 2000000 in
theorem eachU_any {g : Nat} {f : Array Value} {l : List Mv} {w0 w : World} {I : Nat → World → Prop} {err : Nat → Int} (hd : DoesU g f l w0 I err) (lv : Value) (S : Nat → Prop) (h : MvsV S w0 lv l) (h0 : I 0 w) :
  Calls Tryz.prog 195 #[lv, .func (.func g) f #[]] w fun e w' => e = .returned (.int .i64 (scan err l.length)) ∧ Below w0.heap.size w0 w' ∧ (scan err l.length = 0 → I l.length w') := by
 have h' := h
 obtain ⟨a, n, cap, HN, rfl, h1, h2, h3, h4⟩ := h.open
 have eg := hd.enter
 have Hd := Lib.hid hd
 have Hn := Lib.hid HN.out
 rw [← Hn.out]
 clear h hd
 go_enter Tryz.func195, Tryz.ntmps195
 go_wp2_with fail
 go_loopw [10] (fun i wr => ∃ k : Nat, k ≤ n ∧ i = .int .i64 k ∧ Hid (scan err k = 0) ∧ Hid (I k wr)) (fun i _ => n - (intOf i).toNat)
 case atStart => exact ⟨0, by omega, rfl, rfl, h0⟩
 case round =>
  obtain ⟨k, hk, rfl, Hs, HI⟩ := hrel
  clear h0
  have hRw := Hd.out.below _ _ HI.out
  by_cases hlt : k < n
  ·obtain ⟨b, off, rfl, hb, k0, k1, k2⟩ := h4 (by omega)
   have x0 := k0 k wr hlt hRw
   have x1 := k1 k wr hlt hRw
   have x2 := k2 k wr hlt hRw
   obtain ⟨Q, hQ, hQ1, hy⟩ := cls_box wr #[.string (mv l k).name, .int .i64 (mv l k).old, .int .i64 (mv l k).new] 107
   have y0 := hy 0 _ rfl
   have y1 := hy 1 _ rfl
   have y2 := hy 2 _ rfl
   clear hy
   have Hc := Lib.hid (Hd.out.step k _ (by rw [← Hn.out]; exact hlt) Hs.out (Hd.out.next _ _ _ HI.out (hQ.below _ hQ1)))
   have z0 := y0 _ hQ1
   have z1 := y1 _ hQ1
   have z2 := y2 _ hQ1
   have hi1 : (0 : Int) ≤ (k : Int) := by omega
   have hi2 : (k : Int) < (n : Int) := by omega
   clear k0 k1 k2 h4 y0 y1 y2
   by_cases he : err k = 0
   ·have hq : (err k != 0) = false := by simpa using he
    have Hs2 := Lib.hid (show scan err (k + 1) = 0 from scan_next Hs.out he)
    have He := Lib.hid he
    clear he
    go_wp2_with fail
    refine Hc.out.mono ?_
    rintro e w' ⟨rfl, hb2, hI2⟩
    have HI2 := Lib.hid (hI2 He.out)
    clear hI2 hb2
    go_wp2_with fail
    go_roundw
    case rel => exact ⟨k + 1, by omega, by go_num, Hs2, HI2⟩
    case measure => simp [intOf]; omega
   ·have hq : (err k != 0) = true := by simpa using he
    have Hs2 := Lib.hid (show scan err n = err k from scan_hit Hs.out he hlt)
    have He := Lib.hid he
    clear he
    go_wp2_with fail
    refine Hc.out.mono ?_
    rintro e w' ⟨rfl, hb2, hI2⟩
    clear hI2
    go_wp2_with fail
    go_ret
    exact ⟨ret_int Hs2.out.symm, hb2, fun h => absurd (Hs2.out.symm.trans h) He.out⟩
  ·obtain rfl : k = n := by omega
   go_wp2_with fail
   go_ret
   exact ⟨ret_int Hs.out.symm, hRw, fun _ => HI.out⟩
def RetRefsE (w w' : World) (e : Ending) (l : List Rf) (c : Int) : Prop := ∃ v, e = .returned (.tuple #[v, .int .i64 c]) ∧ RefsV (fun b => w.heap.size ≤ b) w' v l ∧ Below w.heap.size w w'
set_option maxRecDepth 100000 in
theorem moves_does {l : List Rf} {us : List Mv} {objs : List Obj} {force : Bool} {ov : Value} (ha : Asc l) (hcm : ∀ r ∈ l, kindOf objs r.id = 3) (hR : Right objs) (hus : ∀ u ∈ us, I64 u.old ∧ I64 u.new ∧ u.name.size ≤ 140737488351232)
  (hl : l.length ≤ 400) (hn : us.length ≤ 200) (w0 : World) (ho : StoreV (fun b => b < w0.heap.size) w0 ov objs) (J : Nat) (hJ : w0.heap.size ≤ J) :
  DoesU 196 #[.pointer (some ⟨J, 0, none⟩)] us w0 (fun k x => MoverAt w0.heap.size J ov force x (movedL l us k) ∧ Below w0.heap.size w0 x) (movedErr l objs us force) where
 enter := fun _ _ => rfl
 below := fun k x h => h.2
 next := fun k x y h hb => ⟨h.1.below hb, below_next h.2 hb⟩
 step := fun k x hk hs hI => by
  have hj := move_any hI.1 (movedL_asc ha us k) (movedL_commits hcm k hs) hR (ho.low hI.2) (mv us k) (hus _ (mv_mem hk)) (by have := movedL_length l us k; omega) hJ
  refine hj.mono ?_
  rintro e w' ⟨rfl, h1, h2⟩
  have hb : Below w0.heap.size w0 w' := hI.2.trans h1
  exact ⟨rfl, hb, fun h => ⟨h2 h, hb⟩⟩
theorem moverAt_new {B : Nat} {w1 : World} {v ov : Value} {force : Bool} {l : List Rf} (h : OwnR B w1 v l) : MoverAt B w1.heap.size ov force (w1.alloc (.cells #[v, ov, .bool force] 216)) l :=
 ⟨v, h.below ((Below.refl _ _).alloc (Nat.le_refl _) _), fun e => by have := (h.block e).2; omega, heap_alloc_new w1 _⟩
set_option maxRecDepth 100000 in
set_option maxHeartbeats 4000000 in
theorem updRaw_any (l : List Rf) (objs : List Obj) (us : List Mv) (force : Bool) (lv ov uv : Value) (S S2 S3 : Nat → Prop) (w : World) (h : RefsV S w lv l) (ho : StoreV S2 w ov objs) (hu : MvsV S3 w uv us)
  (hk : RefsOk l objs) (hR : Right objs) (hul : us.length ≤ 100) :
  Calls Tryz.prog 139 #[lv, ov, uv, .bool force] w fun e w' => RetRefsE w w' e (movedR l objs us force) (movedE l objs us force) := by
 have hmf : ∀ (fn : Fn) (first cap : Array Value) (w : World), (Instr.makeFunc fn first cap).run Tryz.prog w = .ok (.func fn first cap) w := fun _ _ _ _ => rfl
 have Hcl := Lib.hid (cloneRefs_any l lv S w h)
 have HE := Lib.hid (fun J (hJ : w.heap.size ≤ J) x (hx : MoverAt w.heap.size J ov force x l ∧ Below w.heap.size w x) => eachU_any (moves_does (force := force) hk.asc (fun r hr => by obtain ⟨i, hi, rfl⟩ := mem_rf hr; exact hk.commit i hi) hR hu.2 (by have := hk.many; omega) (by omega) w ((ho.lt).weaken (fun b hb => hb.2)) J hJ) uv S3 hu hx)
 have HC := Lib.hid (fun v x S' (hx : RefsV S' x v (movedL l us us.length)) (hb : Below w.heap.size w x) => right_any (movedL l us us.length) objs v ov S' S2 x hx (ho.below hb) hR.rising)
 have HwE := Lib.hid (show movedE l objs us force = if scan (movedErr l objs us force) us.length = 0 then rightErr (movedL l us us.length) objs else scan (movedErr l objs us force) us.length from rfl)
 have HwL := Lib.hid (show movedR l objs us force = if movedE l objs us force = 0 then movedL l us us.length else [] from rfl)
 have hjl := movedL_length l us us.length
 have hm8 := hk.many
 have HJl := Lib.hid (show (movedL l us us.length).length * 24 ≤ 140737488351232 by omega)
 obtain ⟨⟨la, lc⟩, rfl⟩ := h.shape
 obtain ⟨⟨ua, uc⟩, rfl⟩ := hu.shape
 obtain ⟨oa, oc, rfl⟩ := ho.vshape
 clear h hu ho hjl hm8 hk hul
 generalize movedL l us us.length = jl at *
 generalize scan (movedErr l objs us force) us.length = se at *
 have h3 : (se = 0 ∧ rightErr jl objs = 0) ∨ (se = 0 ∧ rightErr jl objs ≠ 0) ∨ se ≠ 0 := by
  by_cases a : se = 0
  ·by_cases b : rightErr jl objs = 0
   ·exact .inl ⟨a, b⟩
   ·exact .inr (.inl ⟨a, b⟩)
  ·exact .inr (.inr a)
 rcases h3 with ⟨hs, hc⟩ | ⟨hs, hc⟩ | hs
 case' inl =>
  have hq : (se == 0) = true := by simpa using hs
  have hq2 : (rightErr jl objs != 0) = false := by simpa using hc
  rw [if_pos hs] at HwE
  have Hs := Lib.hid hs
  rw [HwL.out, HwE.out, if_pos hc, hc]
  clear hs hc
 case' inr.inl =>
  have hq : (se == 0) = true := by simpa using hs
  have hq2 : (rightErr jl objs != 0) = true := by simpa using hc
  rw [if_pos hs] at HwE
  have Hs := Lib.hid hs
  rw [HwL.out, HwE.out, if_neg hc]
  clear hs hc
 case' inr.inr =>
  have hq : (se == 0) = false := by simpa using hs
  have hq2 : (se != 0) = true := by simpa using hs
  rw [if_neg hs] at HwE
  rw [HwL.out, HwE.out, if_neg hs]
  clear hs
 all_goals
  go_enter Tryz.func139, Tryz.ntmps139
  go_wp2_with fail
  refine Hcl.out.mono ?_
  rintro e w1 ⟨v1, rfl, hg1, hb1⟩
  obtain ⟨va, vc, rfl⟩ := hg1.shape
  have hJ := moverAt_new (ov := .slice oa objs.length oc) (force := force) hg1
  have hb2 : Below w.heap.size w (w1.alloc (.cells #[.slice va l.length vc, .slice oa objs.length oc, .bool force] 216)) := below_next hb1 ((Below.refl _ _).alloc (Nat.le_refl _) _)
  have Hea := Lib.hid (HE.out w1.heap.size hb1.size _ ⟨hJ, hb2⟩)
  clear hJ hb2 hg1 hb1
  go_wp2_with fail
  refine Hea.out.mono ?_
  rintro e w3 ⟨rfl, hb3, hI3⟩
 ·have Hb3 := Lib.hid hb3
  clear hI3
  go_wp2_with fail
  go_ret2
  exact ⟨_, rfl, RefsV.nil _ _ _ _ (by omega), Hb3.out⟩
 ·obtain ⟨hJ3, hB3⟩ := hI3 Hs.out
  obtain ⟨v3, hG3, _, hc3⟩ := hJ3
  obtain ⟨a3, c3, rfl⟩ := hG3.shape
  have hst := hG3.refs HJl.out
  have j0 := block_cell (j := 0) hc3 rfl
  have Hck := Lib.hid (HC.out _ _ _ hst hB3)
  go_wp2_with fail
  refine Hck.out.mono ?_
  rintro e w4 ⟨rfl, hb4⟩
  have j4 := block_cell (j := 0) ((hb4.block _ (lt_of_block hc3)).trans hc3) rfl
  have Hend := Lib.hid (And.intro (hst.below hb4) (below_next hB3 hb4))
  go_wp2_with fail
  go_ret2
  exact ⟨_, rfl, RefsV.nil _ _ _ _ (by omega), Hend.out.2⟩
 ·obtain ⟨hJ3, hB3⟩ := hI3 Hs.out
  obtain ⟨v3, hG3, _, hc3⟩ := hJ3
  obtain ⟨a3, c3, rfl⟩ := hG3.shape
  have hst := hG3.refs HJl.out
  have j0 := block_cell (j := 0) hc3 rfl
  have Hck := Lib.hid (HC.out _ _ _ hst hB3)
  go_wp2_with fail
  refine Hck.out.mono ?_
  rintro e w4 ⟨rfl, hb4⟩
  have j4 := block_cell (j := 0) ((hb4.block _ (lt_of_block hc3)).trans hc3) rfl
  have Hend := Lib.hid (And.intro ((hst.below hb4).weaken fun _ h => h.1) (below_next hB3 hb4))
  go_wp2_with fail
  go_ret2
  exact ⟨_, rfl, Hend.out.1, Hend.out.2⟩
set_option maxHeartbeats 1000000 in
theorem idOf_any (l : List Rf) (v : Value) (S : Nat → Prop) (s : ByteArray) (w : World) (h : RefsV S w v l) :
  Calls Tryz.prog 59 #[v, .string s] w fun e w' => e = .returned (.int .i64 (idOf l s)) ∧ w = w' := by
 have h' := h
 obtain ⟨a, n, cap, HN, rfl, h1, h2, h3, h4, h5⟩ := h.open
 have Hr := Lib.hid (refAt_any l _ S s w h')
 by_cases hf : findRf l s = -1
 ·have HI := Lib.hid (show idOf l s = 0 by unfold idOf; rw [if_pos hf])
  rw [hf] at Hr
  clear hf h4 h5 h h'
  go_enter Tryz.func59, Tryz.ntmps59
  go_wp2_with fail
  refine Hr.out.mono ?_
  rintro e w' ⟨rfl, rfl⟩
  go_wp2_with fail
  go_ret
  exact ⟨ret_int HI.out.symm, rfl⟩
 ·obtain ⟨k, hk, hfk, hkn⟩ := find_some hf
  have HI := Lib.hid (show idOf l s = (rf l k).id by unfold idOf; rw [if_neg hf, hfk]; rfl)
  rw [hfk] at Hr
  have hkn2 : k < n := by rw [HN.out]; exact hk
  obtain ⟨b, off, rfl, hb, k0, k1⟩ := h4 (by omega)
  have x1 := k1 k w hkn2 (Below.refl _ _)
  have hi1 : (0 : Int) ≤ (k : Int) := by omega
  have hi2 : (k : Int) < (n : Int) := by omega
  have hi3 : decide ((k : Int) < 0) = false := decide_eq_false (by omega)
  clear hf hfk hkn k0 k1 h4 h5 h h' hk
  go_enter Tryz.func59, Tryz.ntmps59
  go_wp2_with fail
  refine Hr.out.mono ?_
  rintro e w' ⟨rfl, rfl⟩
  go_wp2_with fail
  go_ret
  exact ⟨ret_int HI.out.symm, rfl⟩
def RetRefsN (w w' : World) (e : Ending) (l : List Rf) : Prop := ∃ v, e = .returned v ∧ RefsV (fun b => w.heap.size ≤ b) w' v l ∧ Below w.heap.size w w'
theorem wOut_length (l : List Rf) (s : ByteArray) (id : Int) : ∀ k, (wOut l s id k).length ≤ 2 * k
 | 0 => Nat.le_refl _
 | k + 1 => by
  have := wOut_length l s id k
  rw [wOut]
  simp only [List.length_append]
  have h1 : (if !wPut l s id k && strLt s (rf l k).name then [(⟨s, id⟩ : Rf)] else []).length ≤ 1 := by split <;> simp
  have h2 : (if (rf l k).name.toList == s.toList then [] else [rf l k]).length ≤ 1 := by split <;> simp
  omega
set_option maxRecDepth 100000 in
set_option maxHeartbeats 4000000 in
theorem with_any' (l : List Rf) (lv : Value) (S : Nat → Prop) (s : ByteArray) (id : Int) (w : World) (h : RefsV S w lv l) (hs : I64 id ∧ s.size ≤ 140737488351232) (hl : l.length ≤ 1000) :
  Calls Tryz.prog 190 #[lv, .string s, .int .i64 id] w fun e w' => RetRefsN w w' e (setRf l s id) := by
 have h' := h
 obtain ⟨a, n, cap, HN, rfl, h1, h2, h3, h4, h5⟩ := h.open
 have H5 := Lib.hid h5
 clear h h5
 obtain ⟨R, hR, hR1, hRall⟩ := cls_plain w
 have hRb := hR.below
 have hRn := hR.next
 have HP0 := Lib.hid (show wPut l s id 0 = (id == 0) from rfl)
 have HPn := Lib.hid (fun k => show wPut l s id (k + 1) = (wPut l s id k || strLt s (rf l k).name) from rfl)
 have HOn := Lib.hid (fun k => show wOut l s id (k + 1) = wOut l s id k ++ (if !wPut l s id k && strLt s (rf l k).name then [⟨s, id⟩] else []) ++ (if (rf l k).name.toList == s.toList then [] else [rf l k]) from rfl)
 have HSp := Lib.hid (show wOut l s id n ++ (if wPut l s id n then [] else [⟨s, id⟩]) = setRf l s id by rw [HN.out]; exact with_spec l s id)
 have HOl := Lib.hid (fun k (hk : k ≤ n) => show (wOut l s id k).length ≤ 2000 by have := wOut_length l s id k; have := HN.out; omega)
 have Hsk := Lib.hid (show RfOk ⟨s, id⟩ from hs)
 have HH := Lib.hid (fun x (hx : In R x) (w5 : World) (v : Value) (hu5 : Upd (fun b => Value.ownBlock v = some b) x w5) (hv : ∀ g, Value.ownBlock v = some g → w.heap.size ≤ g) => show In R w5 from hRall _ ((hRb _ hx).trans (hu5.below (B := w.heap.size) (hRb _ hx).size (fun b hb => hv b hb))))
 have hqs : ∀ b : Bool, ((!b) = true ↔ b = false) := by intro b; cases b <;> simp
 clear hqs
 cases hq0 : (id == 0)
 all_goals
  rw [hq0] at HP0
  go_enter Tryz.func190, Tryz.ntmps190
  go_wp2_with fail
  go_loopw [7, 8, 9] (fun v p i wr => ∃ k : Nat, k ≤ n ∧ i = .int .i64 k ∧ p = .bool (wPut l s id k) ∧ Hid (OwnR w.heap.size wr v (wOut l s id k)) ∧ In R wr) (fun _ _ i _ => n - (intOf i).toNat)
  case atStart => exact ⟨0, by omega, rfl, by rw [HP0.out], OwnR.nil _ _, hR1⟩
  case round =>
   obtain ⟨k, hk, rfl, rfl, HG, hRw⟩ := hrel
   clear hR1
   obtain ⟨va, vc, hvs⟩ := HG.out.shape
   obtain ⟨vn, hvn⟩ : ∃ vn, vn = (wOut l s id k).length := ⟨_, rfl⟩
   rw [← hvn] at hvs
   clear hvn
   subst hvs
   have Hl2 := Lib.hid (HOl.out k hk)
   by_cases hlt : k < n
   ·obtain ⟨b, off, rfl, hb, k0, k1⟩ := h4 (by omega)
    have x0 := fun x hx => k0 k x hlt (hRb x hx)
    have x1 := fun x hx => k1 k x hlt (hRb x hx)
    clear h4 k0 k1
    have Hrk := Lib.hid (show RfOk (rf l k) from H5.out k hlt)
    have hi1 : (0 : Int) ≤ (k : Int) := by omega
    have hi2 : (k : Int) < (n : Int) := by omega
    have Hpn := Lib.hid (HPn.out k)
    have Hon := Lib.hid (HOn.out k)
    have Hst := Lib.hid (show strLt s (rf l k).name = Op.bytesLess s.toList (rf l k).name.toList from rfl)
    have hBs := (hRb _ hRw).size
    have y0 := x0 _ hRw
    have y1 := x1 _ hRw
    cases hp : wPut l s id k <;> cases hq : Op.bytesLess s.toList (rf l k).name.toList <;> cases he : ((rf l k).name.toList == s.toList)
    ·have he2 : ((rf l k).name.toList != s.toList) = !((rf l k).name.toList == s.toList) := rfl
     rw [he] at he2
     simp only [Bool.not_true, Bool.not_false] at he2
     rw [hp, Hst.out, hq, he] at Hon
     rw [hp, Hst.out, hq] at Hpn
     simp only [Bool.not_false, Bool.not_true, Bool.and_true, Bool.and_false, Bool.false_and, Bool.true_and, if_true, if_false, Bool.false_eq_true, List.append_nil, Bool.or_false, Bool.or_true, Bool.false_or, Bool.true_or] at Hon Hpn
     clear Hst
     go_wp2_with (at_builtin; refine wpList_append_rf (p := rf l k) rfl _ _ rfl HG.out Hrk.out (by have := Hl2.out; omega) hBs rfl rfl (by first | rfl | simp) ?_)
     intro v' w5 hG5 hu5
     have hR5 := HH.out _ hRw w5 _ hu5 (fun g hg => (HG.out.block hg).1)
     have HG5 := Lib.hid hG5
     obtain ⟨pv, hpv⟩ : ∃ p : Option Addr × Nat × Nat, v' = .slice p.1 p.2.1 p.2.2 := let ⟨a, c, h⟩ := hG5.shape; ⟨(a, _, c), h⟩
     clear hG5 hu5
     subst hpv
     go_wp2_with fail
     go_roundw
     case rel => exact ⟨k + 1, by omega, by go_num, by rw [Hpn.out], by rw [Hon.out]; exact HG5.out, hR5⟩
     case measure => simp [intOf]; omega
    ·have he2 : ((rf l k).name.toList != s.toList) = !((rf l k).name.toList == s.toList) := rfl
     rw [he] at he2
     simp only [Bool.not_true, Bool.not_false] at he2
     rw [hp, Hst.out, hq, he] at Hon
     rw [hp, Hst.out, hq] at Hpn
     simp only [Bool.not_false, Bool.not_true, Bool.and_true, Bool.and_false, Bool.false_and, Bool.true_and, if_true, if_false, Bool.false_eq_true, List.append_nil, Bool.or_false, Bool.or_true, Bool.false_or, Bool.true_or] at Hon Hpn
     clear Hst
     go_wp2_with fail
     go_roundw
     case rel => exact ⟨k + 1, by omega, by go_num, by rw [Hpn.out], by rw [Hon.out]; exact HG.out, hRw⟩
     case measure => simp [intOf]; omega
    ·have he2 : ((rf l k).name.toList != s.toList) = !((rf l k).name.toList == s.toList) := rfl
     rw [he] at he2
     simp only [Bool.not_true, Bool.not_false] at he2
     rw [hp, Hst.out, hq, he] at Hon
     rw [hp, Hst.out, hq] at Hpn
     simp only [Bool.not_false, Bool.not_true, Bool.and_true, Bool.and_false, Bool.false_and, Bool.true_and, if_true, if_false, Bool.false_eq_true, List.append_nil, Bool.or_false, Bool.or_true, Bool.false_or, Bool.true_or] at Hon Hpn
     clear Hst
     go_wp2_with (at_builtin; refine wpList_append_rf (p := ⟨s, id⟩) rfl _ _ rfl HG.out Hsk.out (by have := Hl2.out; omega) hBs rfl rfl (by first | rfl | simp) ?_)
     intro v' w5 hG5 hu5
     have hR5 := HH.out _ hRw w5 _ hu5 (fun g hg => (HG.out.block hg).1)
     have HG5 := Lib.hid hG5
     obtain ⟨pv, hpv⟩ : ∃ p : Option Addr × Nat × Nat, v' = .slice p.1 p.2.1 p.2.2 := let ⟨a, c, h⟩ := hG5.shape; ⟨(a, _, c), h⟩
     clear hG5 hu5 y0 y1
     subst hpv
     have y05 := x0 _ hR5
     have y15 := x1 _ hR5
     have hBs5 := (hRb _ hR5).size
     go_wp2_with (at_builtin; refine wpList_append_rf (p := rf l k) rfl _ _ rfl HG5.out Hrk.out (by have := Hl2.out; simp only [List.length_append, List.length_singleton]; omega) hBs5 rfl rfl (by first | rfl | simp) ?_)
     intro v6 w6 hG6 hu6
     have hR6 := HH.out _ hR5 w6 _ hu6 (fun g hg => (HG5.out.block hg).1)
     have HG6 := Lib.hid hG6
     obtain ⟨pv6, hpv6⟩ : ∃ p : Option Addr × Nat × Nat, v6 = .slice p.1 p.2.1 p.2.2 := let ⟨a, c, h⟩ := hG6.shape; ⟨(a, _, c), h⟩
     clear hG6 hu6
     subst hpv6
     go_wp2_with fail
     go_roundw
     case rel => exact ⟨k + 1, by omega, by go_num, by rw [Hpn.out], by have hx := HG6.out; rw [Hon.out, List.append_assoc]; exact hx, hR6⟩
     case measure => simp [intOf]; omega
    ·exfalso
     rw [beq_iff_eq] at he
     rw [he, less_irrefl] at hq
     cases hq
    ·have he2 : ((rf l k).name.toList != s.toList) = !((rf l k).name.toList == s.toList) := rfl
     rw [he] at he2
     simp only [Bool.not_true, Bool.not_false] at he2
     rw [hp, Hst.out, hq, he] at Hon
     rw [hp, Hst.out, hq] at Hpn
     simp only [Bool.not_false, Bool.not_true, Bool.and_true, Bool.and_false, Bool.false_and, Bool.true_and, if_true, if_false, Bool.false_eq_true, List.append_nil, Bool.or_false, Bool.or_true, Bool.false_or, Bool.true_or] at Hon Hpn
     clear Hst
     go_wp2_with (at_builtin; refine wpList_append_rf (p := rf l k) rfl _ _ rfl HG.out Hrk.out (by have := Hl2.out; omega) hBs rfl rfl (by first | rfl | simp) ?_)
     intro v' w5 hG5 hu5
     have hR5 := HH.out _ hRw w5 _ hu5 (fun g hg => (HG.out.block hg).1)
     have HG5 := Lib.hid hG5
     obtain ⟨pv, hpv⟩ : ∃ p : Option Addr × Nat × Nat, v' = .slice p.1 p.2.1 p.2.2 := let ⟨a, c, h⟩ := hG5.shape; ⟨(a, _, c), h⟩
     clear hG5 hu5
     subst hpv
     go_wp2_with fail
     go_roundw
     case rel => exact ⟨k + 1, by omega, by go_num, by rw [Hpn.out], by rw [Hon.out]; exact HG5.out, hR5⟩
     case measure => simp [intOf]; omega
    ·have he2 : ((rf l k).name.toList != s.toList) = !((rf l k).name.toList == s.toList) := rfl
     rw [he] at he2
     simp only [Bool.not_true, Bool.not_false] at he2
     rw [hp, Hst.out, hq, he] at Hon
     rw [hp, Hst.out, hq] at Hpn
     simp only [Bool.not_false, Bool.not_true, Bool.and_true, Bool.and_false, Bool.false_and, Bool.true_and, if_true, if_false, Bool.false_eq_true, List.append_nil, Bool.or_false, Bool.or_true, Bool.false_or, Bool.true_or] at Hon Hpn
     clear Hst
     go_wp2_with fail
     go_roundw
     case rel => exact ⟨k + 1, by omega, by go_num, by rw [Hpn.out], by rw [Hon.out]; exact HG.out, hRw⟩
     case measure => simp [intOf]; omega
    ·have he2 : ((rf l k).name.toList != s.toList) = !((rf l k).name.toList == s.toList) := rfl
     rw [he] at he2
     simp only [Bool.not_true, Bool.not_false] at he2
     rw [hp, Hst.out, hq, he] at Hon
     rw [hp, Hst.out, hq] at Hpn
     simp only [Bool.not_false, Bool.not_true, Bool.and_true, Bool.and_false, Bool.false_and, Bool.true_and, if_true, if_false, Bool.false_eq_true, List.append_nil, Bool.or_false, Bool.or_true, Bool.false_or, Bool.true_or] at Hon Hpn
     clear Hst
     go_wp2_with (at_builtin; refine wpList_append_rf (p := rf l k) rfl _ _ rfl HG.out Hrk.out (by have := Hl2.out; omega) hBs rfl rfl (by first | rfl | simp) ?_)
     intro v' w5 hG5 hu5
     have hR5 := HH.out _ hRw w5 _ hu5 (fun g hg => (HG.out.block hg).1)
     have HG5 := Lib.hid hG5
     obtain ⟨pv, hpv⟩ : ∃ p : Option Addr × Nat × Nat, v' = .slice p.1 p.2.1 p.2.2 := let ⟨a, c, h⟩ := hG5.shape; ⟨(a, _, c), h⟩
     clear hG5 hu5
     subst hpv
     go_wp2_with fail
     go_roundw
     case rel => exact ⟨k + 1, by omega, by go_num, by rw [Hpn.out], by rw [Hon.out]; exact HG5.out, hR5⟩
     case measure => simp [intOf]; omega
    ·exfalso
     rw [beq_iff_eq] at he
     rw [he, less_irrefl] at hq
     cases hq
   ·obtain rfl : k = n := by omega
    have hBs := (hRb _ hRw).size
    cases hp : wPut l s id k
    ·rw [hp] at HSp
     go_wp2_with (at_builtin; refine wpList_append_rf (p := ⟨s, id⟩) rfl _ _ rfl HG.out Hsk.out (by have := Hl2.out; omega) hBs rfl rfl (by first | rfl | simp) ?_)
     intro v' w5 hG5 hu5
     have hR5 := HH.out _ hRw w5 _ hu5 (fun g hg => (HG.out.block hg).1)
     have HG5 := Lib.hid hG5
     obtain ⟨pv, hpv⟩ : ∃ p : Option Addr × Nat × Nat, v' = .slice p.1 p.2.1 p.2.2 := let ⟨a, c, h⟩ := hG5.shape; ⟨(a, _, c), h⟩
     clear hG5 hu5
     subst hpv
     go_wp2_with fail
     go_ret
     have hl3 := Hl2.out
     refine ⟨_, rfl, ?_, hRb _ hR5⟩
     rw [← HSp.out]
     exact (HG5.out.refs (by simp only [List.length_append, List.length_singleton]; omega)).weaken fun _ h => h.1
    ·rw [hp] at HSp
     go_wp2_with fail
     go_ret
     have hl3 := Hl2.out
     refine ⟨_, rfl, ?_, hRb _ hRw⟩
     rw [← HSp.out]
     simp only [if_true, List.append_nil]
     exact (HG.out.refs (by omega)).weaken fun _ h => h.1
end Go.Proofs.YtjdgpgfiomnjkaaGreatDoor
