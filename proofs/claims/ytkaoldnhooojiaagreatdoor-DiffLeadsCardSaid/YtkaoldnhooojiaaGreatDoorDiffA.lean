
/- DiffA: walks of diff.Raw, diff.Objects and the reference's DiffOf. -/
import Derived.Test.YtkaoldnhooojiaaGreatDoorDiffP
import Derived.Test.YtkaoldnhooojiaaGreatDoorRefB
import Derived.Deep.RegionHeld3
namespace Go.Proofs.YtkaoldnhooojiaaGreatDoor
open Go.RowKit
set_option linter.unusedVariables false
set_option linter.unusedSimpArgs false

/-- one object is appended, and where all links lie -/
theorem GathS.push {B : Nat} {w w1 : World} {v v' : Value} {l : List Obj} {o : Obj} {lv : Value} {S S2 : Nat → Prop} {ob : Go.Obj} {lvs : Nat → Value}
    (h1 : ∀ b, S b → b < w.heap.size ∧ v.ownBlock ≠ some b) (h3 : ∀ i, i < l.length → ObjIs S w (obj l i) (lvs i))
    (ho : ObjIs S2 w o lv) (h2 : ∀ b, S2 b → b < w.heap.size ∧ v.ownBlock ≠ some b)
    (hown : w1.ownsRow B 89 4 v' (l.length + 1) (flat (fun i => objCells (obj l i) (lvs i)) l.length ++ objCells o lv)) (hgrow : (w.alloc ob).grownBy w1 v.ownBlock)
    (hat : v'.ownBlock = v.ownBlock ∨ v'.ownBlock = some (w.heap.size + 1)) : GathS (fun b => S b ∨ S2 b) B w1 v' (l ++ [o]) := by
  have hu : Upd (fun b => v.ownBlock = some b) w w1 := Upd.grown ((Upd.refl _ _).alloc ob) hgrow (fun k hk _ => hk)
  refine ⟨fun i => if i < l.length then lvs i else lv, fun b hb => ?_, ?_, fun i hi => ?_⟩
  · have hb' : b < w.heap.size ∧ v.ownBlock ≠ some b := by rcases hb with hb | hb; exact h1 b hb; exact h2 b hb
    refine ⟨Nat.lt_of_lt_of_le hb'.1 hu.size, ?_⟩
    rcases hat with h | h
    · rw [h]; exact hb'.2
    · rw [h]; intro e; cases e; omega
  · rw [List.length_append, List.length_singleton, flat]
    have e1 : flat (fun i => objCells (obj (l ++ [o]) i) (if i < l.length then lvs i else lv)) l.length = flat (fun i => objCells (obj l i) (lvs i)) l.length :=
      flat_congr fun i hi => by rw [obj_snoc_lt hi, if_pos hi]
    rw [e1, obj_snoc_eq]
    simp only [Nat.lt_irrefl, if_false]
    exact hown
  · rw [List.length_append, List.length_singleton] at hi
    by_cases hl : i < l.length
    · simp only [obj_snoc_lt hl, if_pos hl]
      exact ((h3 i hl).upd hu (fun b hb h => (h1 b hb).2 h)).weaken fun _ h => .inl h
    · have : i = l.length := by omega
      subst this
      simp only [obj_snoc_eq, if_neg hl]
      exact (ho.upd hu (fun b hb h => (h2 b hb).2 h)).weaken fun _ h => .inr h

/-- 'append(v, o)' of one object, carried out -/
theorem append_objS {B : Nat} {w : World} {v : Value} {l : List Obj} {p : Obj} {lv : Value} {S S2 : Nat → Prop} (ty : TypeId) (hG : GathS S B w v l) (hp : ObjIs S2 w p lv)
    (h2 : ∀ b, S2 b → b < w.heap.size ∧ v.ownBlock ≠ some b) (hl : (l.length + 1) * 56 ≤ 140737488351232) (hB : B ≤ w.heap.size) :
    ∃ a c x, (Builtin.append_ #[23, 23] ty #[v, .slice (some ⟨w.heap.size, 0, none⟩) 1 1]).run Tryz.prog (w.alloc (.cells #[.int .i64 p.id, .int .i64 p.kind, lv, .string p.text] 89)) = .ok (.slice a (l.length + 1) c) x ∧
      GathS (fun b => S b ∨ S2 b) B x (.slice a (l.length + 1) c) (l ++ [p]) ∧ Upd (fun b => v.ownBlock = some b) w x ∧ ((Value.slice a (l.length + 1) c).ownBlock = v.ownBlock ∨ ∃ k, (Value.slice a (l.length + 1) c).ownBlock = some k ∧ w.heap.size ≤ k) := by
  obtain ⟨lvs, h1, hown, h3⟩ := hG
  obtain ⟨i0, hi, hz0, hz1, hz2⟩ := info_parts Tryz.infoObj
  obtain ⟨g, c, x, hr, ho, hg, hor, hlt⟩ := run_append_lies (P := Tryz.prog) (w.alloc (.cells #[.int .i64 p.id, .int .i64 p.kind, lv, .string p.text] 89)) 23 ty B 89 i0 _ 4 56 Tryz.underlying23 hi hz0 hz1 hz2 rfl (by omega) v l.length _ (hown.alloc _) ⟨w.heap.size, 0, none⟩ 1 1 (objCells p lv) rfl
    (World.news_of_block (cs := #[.int .i64 p.id, .int .i64 p.kind, lv, .string p.text]) (t := 89) (fr := (0, 0)) (heap_alloc_new w _)) (one_cells hp) (by omega) (by unfold maxLen; omega) (by omega) (by simp; omega) _ rfl
  have hat : (Value.slice (some ⟨g, 0, none⟩) (l.length + 1) c).ownBlock = v.ownBlock ∨ (Value.slice (some ⟨g, 0, none⟩) (l.length + 1) c).ownBlock = some (w.heap.size + 1) := by
    rcases hor with h | h
    · exact .inl h.symm
    · right; rw [h]; simp [Value.ownBlock]
  refine ⟨_, c, x, hr, GathS.push h1 h3 hp h2 ho hg hat, Upd.grown ((Upd.refl _ _).alloc _) hg (fun k hk _ => hk), ?_⟩
  rcases hat with h | h
  · exact .inl h
  · exact .inr ⟨_, h, by omega⟩

/-- objects of the call's own in a variable's cell -/
def OutAt (B J : Nat) (w : World) (l : List Obj) : Prop :=
  ∃ v S, GathS S B w v l ∧ (∀ b, S b → b ≠ J) ∧ v.ownBlock ≠ some J ∧ w.heap[J]? = some (.cells #[v] 23 (0, 0))
theorem OutAt.below {B J : Nat} {w w' : World} {l : List Obj} (h : OutAt B J w l) (hb : Below w.heap.size w w') : OutAt B J w' l := by
  obtain ⟨v, S, h1, h2, h3, h4⟩ := h
  exact ⟨v, S, h1.below hb, h2, h3, (hb.block _ (lt_of_block h4)).trans h4⟩
theorem OutAt.lt {B J : Nat} {w : World} {l : List Obj} (h : OutAt B J w l) : J < w.heap.size := let ⟨_, _, _, _, _, h4⟩ := h; lt_of_block h4
theorem outAt_new (w : World) (B : Nat) : OutAt B w.heap.size (w.alloc (.cells #[.slice none 0 0] 23)) [] :=
  ⟨.slice none 0 0, fun _ => False, ⟨fun _ => .nilFunc, fun _ h => h.elim, World.ownsRow_nil _ _ _ _, fun i hi => by simp at hi⟩, fun _ h => h.elim, by simp [Value.ownBlock], heap_alloc_new w _⟩

theorem out_end {B J : Nat} {w x0 xo w9 : World} {v v' : Value} {m : List Obj} {S : Nat → Prop} (hB : B ≤ J) (hJw : J < w.heap.size) (hSJ : ∀ b, S b → b ≠ J) (hvJ : v.ownBlock ≠ some J) (hcJ : w.heap[J]? = some (.cells #[v] 23 (0, 0)))
    (hb0 : Below w.heap.size w x0) (hb : Below w.heap.size w xo) (hvB : ∀ g, v.ownBlock = some g → B ≤ g) (hG : GathS (fun b => S b ∨ (x0.heap.size ≤ b ∧ b < xo.heap.size)) B w9 v' m) (hu : Upd (fun b => v.ownBlock = some b) xo w9) (hat : v'.ownBlock = v.ownBlock ∨ ∃ k, v'.ownBlock = some k ∧ xo.heap.size ≤ k) :
    OutAt B J (w9.setCell ⟨J, 0, none⟩ v') m ∧ Below B w (w9.setCell ⟨J, 0, none⟩ v') := by
  have h0 := hb0.size
  have h1 := hb.size
  have hJ9 : w9.heap[J]? = some (.cells #[v] 23 (0, 0)) := hu.blk ((hb.block _ hJw).trans hcJ) hvJ
  have hu2 : Upd (fun b => b = J) w9 (w9.setCell ⟨J, 0, none⟩ v') := (Upd.refl (fun b => b = J) w9).setCell (p := ⟨J, 0, none⟩) (fun _ => rfl) _
  have hv' : v'.ownBlock ≠ some J := by
    rcases hat with h | ⟨k, h, hk⟩
    · rw [h]; exact hvJ
    · rw [h]; intro e; cases e; omega
  refine ⟨⟨v', _, hG.upd hu2 (fun b hb' e => ?_) (fun g hg e => hv' (by rw [hg, e])), fun b hb' => ?_, hv', block_setCell (j := 0) hJ9 v'⟩, ?_⟩
  · rcases hb' with h | h
    · exact hSJ b h e
    · omega
  · rcases hb' with h | h
    · exact hSJ b h
    · omega
  · exact (hb.mono (by omega)).trans ((hu.below (by omega) hvB).trans (hu2.below (B := B) (by have := hu.size; omega) (fun b e => by omega)))

def missE (m : List Obj) (o : Obj) : Int := if isAt m o.id = true ∧ sameObj o (obj m (lo m o.id)) = false then 6 else 0
def missO (l m : List Obj) (o : Obj) : List Obj := if isAt m o.id = true then l else l ++ [o]

set_option maxRecDepth 100000 in
set_option maxHeartbeats 4000000 in
theorem raw1_any {B J T : Nat} {l m : List Obj} {w : World} (hJ : OutAt B J w l) (tv : Value) (hT : w.heap[T]? = some (.cells #[tv] 23 (0, 0))) (S1 : Nat → Prop) (hm : StoreV S1 w tv m) (hr : Rising m) (o : Obj) (lv : Value) (S2 : Nat → Prop) (ho : ObjIs S2 w o lv) (hl : l.length ≤ 900) (hB : B ≤ J) :
    Calls Tryz.prog 137 #[.agg #[.int .i64 o.id, .int .i64 o.kind, lv, .string o.text], .pointer (some ⟨T, 0, none⟩), .pointer (some ⟨J, 0, none⟩)] w
      fun e w' => e = .returned (.int .i64 (missE m o)) ∧ Below B w w' ∧ OutAt B J w' (missO l m o) := by
  have hJ' := hJ
  obtain ⟨v, S, hG, hSJ, hvJ, hcJ⟩ := hJ
  obtain ⟨va, vc, rfl⟩ := hG.gath.shape
  obtain ⟨⟨lp, lc⟩, rfl⟩ := ho.1.shape
  obtain ⟨ta, tc, rfl⟩ := hm.vshape
  have hJw := lt_of_block hcJ
  have hTw := lt_of_block hT
  obtain ⟨Q, hQ, hQ1, y0, y1, y2, y3⟩ := cls_box4 w (.int .i64 o.id) (.int .i64 o.kind) (.slice lp o.links.length lc) (.string o.text) 89
  have hQb := hQ.below
  have hQn := hQ.next
  have hQg := cls_grown hQ
  have cJ := fun x (hx : In Q x) => block_cell (w := x) (j := 0) ((hQb x hx).block _ hJw |>.trans hcJ) rfl
  have cT := fun x (hx : In Q x) => block_cell (w := x) (j := 0) ((hQb x hx).block _ hTw |>.trans hT) rfl
  have Hat := Lib.hid (fun x (hx : In Q x) => at_any m _ _ o.id x (hm.below (hQb _ hx)) hr)
  cases hat : isAt m o.id
  · have HjL := Lib.hid (show missO l m o = l ++ [o] by unfold missO; rw [if_neg (by simp [hat])])
    have HjE := Lib.hid (show missE m o = 0 by unfold missE; simp [hat])
    rw [HjL.out, HjE.out]
    rw [hat] at Hat
    have Ho := Lib.hid ho
    have HG := Lib.hid hG
    have HSJ := Lib.hid hSJ
    have HcJ := Lib.hid hcJ
    clear hJ' hr ho hG hSJ hcJ hm hT
    generalize lo m o.id = k at *
    go_enter Tryz.func137, Tryz.ntmps137
    go_wp2_with fail
    refine (Hat.out _ hQ1).mono ?_
    rintro e w5 ⟨rfl, hb5⟩
    have hQ2 := hQn _ _ hQ1 hb5
    clear hb5
    go_wp2_with fail
    have hQd := hQ.drew _ hQ2
    refine any_start (by kernel_rfl) rfl ?_
    generalize w5.drew = x0 at *
    have HQn := Lib.hid hQn
    have HQa := Lib.hid hQ.alloc
    have hQ0 := hQd
    clear hQd
    have z0 := y0 _ hQ0
    have z1 := y1 _ hQ0
    have z2 := y2 _ hQ0
    have z3 := y3 _ hQ0
    have zJ := cJ _ hQ0
    have hown := own_any o _ S2 x0 (Ho.out.below (hQb _ hQ0))
    refine any_two 0 1 (by kernel_rfl) (op_do rfl (by rfl) (fun K hK => ?_)) (op_do rfl (by rfl) (fun K hK => ?_))
    · go_wp2_with fail
      refine any_one 1 (by kernel_rfl) rfl (by rfl) (fun K hK => ?_)
      go_wp2_with fail
      refine any_one 2 (by kernel_rfl) rfl (by rfl) (fun K hK => ?_)
      go_wp2_with fail
      refine hown.mono ?_
      rintro e xo ⟨lo, rfl, hoo, hbo⟩
      obtain ⟨⟨lop, loc⟩, rfl⟩ := hoo.1.shape
      have hQo := HQn.out _ _ hQ0 hbo
      have zJo := cJ _ hQo
      have zJo2 := cJ _ (HQa.out _ (.cells #[.int .i64 o.id, .int .i64 o.kind, .slice lop o.links.length loc, .string o.text] 89) hQo)
      go_wp2_with fail
      refine any_one 3 (by kernel_rfl) rfl (by rfl) (fun K hK => ?_)
      go_wp2_with fail
      obtain ⟨va9, vc9, w9, hr9, hG9, hu9, hat9⟩ := append_objS 23 (HG.out.below (hQb _ hQo)) hoo.lt (fun b hb => ⟨hb.2, fun e => by have h1 := (HG.out.gath.block e).2; have h2 := (hQb _ hQ0).size; omega⟩) (by omega) (show B ≤ xo.heap.size by have := (hQb _ hQo).size; omega)
      have Hend := Lib.hid (out_end hB hJw HSJ.out hvJ HcJ.out (hQb _ hQ0) (hQb _ hQo) (fun g hg => (HG.out.gath.block hg).1) hG9 hu9 hat9)
      have hJ9 : w9.heap[J]? = some (.cells #[_] 23 (0, 0)) := hu9.blk (((hQb _ hQo).block _ hJw).trans HcJ.out) hvJ
      have cJ9 := block_cell (j := 0) hJ9 rfl
      have fJ9 := block_free (j := 0) hJ9
      clear hG9 hu9 hat9 hJ9
      refine any_one 4 (by kernel_rfl) rfl (by rfl) (fun K hK => ?_)
      refine wp_append_run (.tmp 17) (.tmp 20) 23 (by rfl) _ _ _ (by rfl) (by rfl) hr9 ?_
      refine hK _ _ ?_
      clear hr9
      refine any_one 5 (by kernel_rfl) rfl (by rfl) (fun K hK => ?_)
      go_wp2_with fail
      refine any_done (by kernel_rfl) ?_
      go_wp2_with fail
      go_ret
      exact ⟨rfl, Hend.out.2, Hend.out.1⟩
    · go_wp2_with fail
      refine any_two 0 2 (by kernel_rfl) (op_do rfl (by rfl) (fun K hK => ?_)) (op_do rfl (by rfl) (fun K hK => ?_))
      · go_wp2_with fail
        refine any_one 2 (by kernel_rfl) rfl (by rfl) (fun K hK => ?_)
        go_wp2_with fail
        refine hown.mono ?_
        rintro e xo ⟨lo, rfl, hoo, hbo⟩
        obtain ⟨⟨lop, loc⟩, rfl⟩ := hoo.1.shape
        have hQo := HQn.out _ _ hQ0 hbo
        have zJo := cJ _ hQo
        have zJo2 := cJ _ (HQa.out _ (.cells #[.int .i64 o.id, .int .i64 o.kind, .slice lop o.links.length loc, .string o.text] 89) hQo)
        go_wp2_with fail
        refine any_one 3 (by kernel_rfl) rfl (by rfl) (fun K hK => ?_)
        go_wp2_with fail
        obtain ⟨va9, vc9, w9, hr9, hG9, hu9, hat9⟩ := append_objS 23 (HG.out.below (hQb _ hQo)) hoo.lt (fun b hb => ⟨hb.2, fun e => by have h1 := (HG.out.gath.block e).2; have h2 := (hQb _ hQ0).size; omega⟩) (by omega) (show B ≤ xo.heap.size by have := (hQb _ hQo).size; omega)
        have Hend := Lib.hid (out_end hB hJw HSJ.out hvJ HcJ.out (hQb _ hQ0) (hQb _ hQo) (fun g hg => (HG.out.gath.block hg).1) hG9 hu9 hat9)
        have hJ9 : w9.heap[J]? = some (.cells #[_] 23 (0, 0)) := hu9.blk (((hQb _ hQo).block _ hJw).trans HcJ.out) hvJ
        have cJ9 := block_cell (j := 0) hJ9 rfl
        have fJ9 := block_free (j := 0) hJ9
        clear hG9 hu9 hat9 hJ9
        refine any_one 4 (by kernel_rfl) rfl (by rfl) (fun K hK => ?_)
        refine wp_append_run (.tmp 17) (.tmp 20) 23 (by rfl) _ _ _ (by rfl) (by rfl) hr9 ?_
        refine hK _ _ ?_
        clear hr9
        refine any_one 5 (by kernel_rfl) rfl (by rfl) (fun K hK => ?_)
        go_wp2_with fail
        refine any_done (by kernel_rfl) ?_
        go_wp2_with fail
        go_ret
        exact ⟨rfl, Hend.out.2, Hend.out.1⟩
      · go_wp2_with fail
        refine hown.mono ?_
        rintro e xo ⟨lo, rfl, hoo, hbo⟩
        obtain ⟨⟨lop, loc⟩, rfl⟩ := hoo.1.shape
        have hQo := HQn.out _ _ hQ0 hbo
        have zJo := cJ _ hQo
        have zJo2 := cJ _ (HQa.out _ (.cells #[.int .i64 o.id, .int .i64 o.kind, .slice lop o.links.length loc, .string o.text] 89) hQo)
        go_wp2_with fail
        refine any_two 0 3 (by kernel_rfl) (op_do rfl (by rfl) (fun K hK => ?_)) (op_do rfl (by rfl) (fun K hK => ?_))
        · go_wp2_with fail
          refine any_one 3 (by kernel_rfl) rfl (by rfl) (fun K hK => ?_)
          go_wp2_with fail
          obtain ⟨va9, vc9, w9, hr9, hG9, hu9, hat9⟩ := append_objS 23 (HG.out.below (hQb _ hQo)) hoo.lt (fun b hb => ⟨hb.2, fun e => by have h1 := (HG.out.gath.block e).2; have h2 := (hQb _ hQ0).size; omega⟩) (by omega) (show B ≤ xo.heap.size by have := (hQb _ hQo).size; omega)
          have Hend := Lib.hid (out_end hB hJw HSJ.out hvJ HcJ.out (hQb _ hQ0) (hQb _ hQo) (fun g hg => (HG.out.gath.block hg).1) hG9 hu9 hat9)
          have hJ9 : w9.heap[J]? = some (.cells #[_] 23 (0, 0)) := hu9.blk (((hQb _ hQo).block _ hJw).trans HcJ.out) hvJ
          have cJ9 := block_cell (j := 0) hJ9 rfl
          have fJ9 := block_free (j := 0) hJ9
          clear hG9 hu9 hat9 hJ9
          refine any_one 4 (by kernel_rfl) rfl (by rfl) (fun K hK => ?_)
          refine wp_append_run (.tmp 17) (.tmp 20) 23 (by rfl) _ _ _ (by rfl) (by rfl) hr9 ?_
          refine hK _ _ ?_
          clear hr9
          refine any_one 5 (by kernel_rfl) rfl (by rfl) (fun K hK => ?_)
          go_wp2_with fail
          refine any_done (by kernel_rfl) ?_
          go_wp2_with fail
          go_ret
          exact ⟨rfl, Hend.out.2, Hend.out.1⟩
        · go_wp2_with fail
          refine any_one 0 (by kernel_rfl) rfl (by rfl) (fun K hK => ?_)
          go_wp2_with fail
          obtain ⟨va9, vc9, w9, hr9, hG9, hu9, hat9⟩ := append_objS 23 (HG.out.below (hQb _ hQo)) hoo.lt (fun b hb => ⟨hb.2, fun e => by have h1 := (HG.out.gath.block e).2; have h2 := (hQb _ hQ0).size; omega⟩) (by omega) (show B ≤ xo.heap.size by have := (hQb _ hQo).size; omega)
          have Hend := Lib.hid (out_end hB hJw HSJ.out hvJ HcJ.out (hQb _ hQ0) (hQb _ hQo) (fun g hg => (HG.out.gath.block hg).1) hG9 hu9 hat9)
          have hJ9 : w9.heap[J]? = some (.cells #[_] 23 (0, 0)) := hu9.blk (((hQb _ hQo).block _ hJw).trans HcJ.out) hvJ
          have cJ9 := block_cell (j := 0) hJ9 rfl
          have fJ9 := block_free (j := 0) hJ9
          clear hG9 hu9 hat9 hJ9
          refine any_one 4 (by kernel_rfl) rfl (by rfl) (fun K hK => ?_)
          refine wp_append_run (.tmp 17) (.tmp 20) 23 (by rfl) _ _ _ (by rfl) (by rfl) hr9 ?_
          refine hK _ _ ?_
          clear hr9
          refine any_one 5 (by kernel_rfl) rfl (by rfl) (fun K hK => ?_)
          go_wp2_with fail
          refine any_done (by kernel_rfl) ?_
          go_wp2_with fail
          go_ret
          exact ⟨rfl, Hend.out.2, Hend.out.1⟩
  · have HjL := Lib.hid (show missO l m o = l by unfold missO; rw [if_pos hat])
    have hk : lo m o.id < m.length := by unfold isAt at hat; simp at hat; exact hat.1
    have HjE := Lib.hid (show missE m o = if sameObj o (obj m (lo m o.id)) = false then 6 else 0 by unfold missE; simp [hat])
    rw [HjL.out]
    obtain ⟨a5, n5, c5, la5, ln5, lc5, HN5, e5, _, _, _, h45, h55⟩ := hm.open
    cases e5
    obtain ⟨b, off, rfl, _, k0, k1, k2, k3⟩ := h45 (by omega)
    have Hs := Lib.hid (fun x (hx : In Q x) => same_any o (obj m (lo m o.id)) _ _ _ _ x (ho.below (hQb _ hx)) ((h55 _ hk).below (hQb _ hx)))
    rw [hat] at Hat
    generalize lo m o.id = k at *
    have x0 := fun x (hx : In Q x) => k0 k x hk (hQb x hx)
    have x1 := fun x (hx : In Q x) => k1 k x hk (hQb x hx)
    have x2 := fun x (hx : In Q x) => k2 k x hk (hQb x hx)
    have x3 := fun x (hx : In Q x) => k3 k x hk (hQb x hx)
    have HJ := Lib.hid (fun x (hx : In Q x) => And.intro ((hQb x hx).mono (show B ≤ w.heap.size by omega)) (hJ'.below (hQb x hx)))
    have hi1 : (0 : Int) ≤ (k : Int) := by omega
    have hi2 : (k : Int) < (m.length : Int) := by omega
    clear k0 k1 k2 k3 h45 h55 hG hSJ hvJ hcJ hJ' hr HN5 ho hT hm
    rw [HjE.out]
    have Hend := Lib.hid (fun x (hx : In Q x) => HJ.out x hx)
    cases hs : sameObj o (obj m k)
    case' false => rw [hs] at Hs
    case' true => rw [hs] at Hs
    all_goals
      go_enter Tryz.func137, Tryz.ntmps137
      go_wp2_with fail
      refine (Hat.out _ hQ1).mono ?_
      rintro e w5 ⟨rfl, hb5⟩
      have hQ2 := hQn _ _ hQ1 hb5
      clear hb5
      go_wp2_with fail
      refine wp_region_quiet_below (by kernel_rfl) (by kernel_rfl) ?_
      repeat (quiet_step (exact Calls.regrown_of (Hs.out _ (hQg _ _ _ hQ2))))
      refine wpQuiet_nil ?_
      intro _ hw'
      obtain ⟨⟨dq, osq⟩, hw''⟩ := hw'
      subst hw''
      have hQ3 := hQg _ dq osq hQ2
      generalize Go.Sort.grow (redrawn _ dq) osq = w6 at *
      go_wp2_with fail
      go_ret
      exact ⟨rfl, (Hend.out _ hQ3).1, (Hend.out _ hQ3).2⟩
end Go.Proofs.YtkaoldnhooojiaaGreatDoor
