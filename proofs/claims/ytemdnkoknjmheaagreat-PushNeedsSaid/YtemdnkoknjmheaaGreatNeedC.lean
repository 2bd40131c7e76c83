
/- Walks: what a push needs: the reference's NeedsOf. -/
import Derived.Test.YtemdnkoknjmheaaGreatNeedB
namespace Go.Proofs.YtemdnkoknjmheaaGreat
open Go.RowKit
set_option linter.unusedVariables false
set_option linter.unusedSimpArgs false

def namedO (p : Psh) (id : Int) (i : Nat) : Bool := (p.objects.take i).any fun o => o.links.any fun x => x == id
def namedK (b : Bool) (ls : List Int) (id : Int) (k : Nat) : Bool := b || (ls.take k).any fun x => x == id
def namedU (b : Bool) (us : List Mv) (id : Int) (k : Nat) : Bool := b || (us.take k).any fun u => u.new == id
theorem namedO_next {p : Psh} {id : Int} {i : Nat} (h : i < p.objects.length) : namedO p id (i + 1) = namedK (namedO p id i) (obj p.objects i).links id (obj p.objects i).links.length := by
  unfold namedO namedK; rw [List.take_succ_eq_append_getElem h, List.any_append, obj_lt h, List.take_length]; simp
theorem namedK_next {b : Bool} {ls : List Int} {id : Int} {k : Nat} (h : k < ls.length) : namedK b ls id (k + 1) = (namedK b ls id k || (nth ls k == id)) := by
  unfold namedK; rw [List.take_succ_eq_append_getElem h, List.any_append, nth_lt h, Bool.or_assoc]; simp
theorem namedU_next {b : Bool} {us : List Mv} {id : Int} {k : Nat} (h : k < us.length) : namedU b us id (k + 1) = (namedU b us id k || ((mv us k).new == id)) := by
  unfold namedU; rw [List.take_succ_eq_append_getElem h, List.any_append, mv_lt h, Bool.or_assoc]; simp
theorem named_eq {p : Psh} {id : Int} : namedU (namedO p id p.objects.length) p.updates id p.updates.length = namedB p id := by
  unfold namedU namedO namedB; rw [List.take_length, List.take_length]
theorem wantTo_next (l : List Obj) (p : Psh) (i : Nat) : wantTo l p (i + 1) = wantTo l p i ++ (if wantB l p ((i : Int) + 1) then [(i : Int) + 1] else []) := by
  unfold wantTo
  rw [List.range_succ, List.map_append, List.filter_append]
  congr 1
  cases e : wantB l p ((i : Int) + 1) <;> simp [e]
theorem wantTo_length (l : List Obj) (p : Psh) (i : Nat) : (wantTo l p i).length ≤ i := by
  unfold wantTo
  have := List.length_filter_le (wantB l p) ((List.range i).map fun (i : Nat) => (i : Int) + 1)
  rw [List.length_map, List.length_range] at this; exact this

/-- behind a new block of cells; closed under whatever writes behind it -/
theorem cls_box1 (w : World) (cs : Array Value) (t : TypeId) : ∃ R : World → Prop, Cls w R ∧ In R (w.alloc (.cells cs t)) ∧ (∀ j v, cs[j]? = some v → ∀ x, In R x → x.cell? ⟨w.heap.size, j, none⟩ = some v) ∧ ∀ x y, In R x → Below (w.heap.size + 1) x y → In R y := by
  refine ⟨_, cls_of w (w.alloc (.cells cs t)) (w.heap.size + 1) (by omega) (by simp) ((Below.refl _ _).alloc (Nat.le_refl _) _), Below.refl _ _, fun j v hv x hx => ?_, fun x y hx hb => Below.trans hx hb⟩
  rw [Below.cell hx (p := ⟨w.heap.size, j, none⟩) (by simp)]
  rw [World.cell?_alloc_at _ _ _ _ rfl]; exact hv

set_option maxRecDepth 100000 in
set_option maxHeartbeats 8000000 in
theorem needsOf_any (l : List Obj) (p : Psh) (lv ov uv : Value) (S1 S2 S3 : Nat → Prop) (w : World) (hl : StoreV S1 w lv l) (ho : StoreV S2 w ov p.objects) (hu : MvsV S3 w uv p.updates) :
    Calls Tryz.prog 11 #[lv, .agg #[ov, uv, .bool p.force]] w fun e w' => ∃ v, e = .returned v ∧ IntsV (fun _ => True) w' v (wantTo l p 99) ∧ Below w.heap.size w w' := by
  have Hl := Lib.hid (fun id x (hx : Below w.heap.size w x) => objectAt_any l _ _ id x (hl.below hx))
  have Hp := Lib.hid (fun id x (hx : Below w.heap.size w x) => objectAt_any p.objects _ _ id x (ho.below hx))
  obtain ⟨oa, m, oc, la, ln, lc, HN, rfl, h1, h2, h3, h4, h5⟩ := ho.open
  obtain ⟨ua, un, uc, HU, rfl, u1, u2, u3, u4⟩ := hu.open
  obtain ⟨la0, lc0, rfl⟩ := hl.vshape
  obtain ⟨R, hR, hR1, hy, hRall⟩ := cls_box1 w #[.slice oa m oc, .slice ua un uc, .bool p.force] 26
  have y0 := hy 0 _ rfl
  have y1 := hy 1 _ rfl
  have hRb := hR.below
  have hRn := hR.next
  have HR := Lib.hid hR
  have Hm := Lib.hid HN.out.1
  have Hln := Lib.hid HN.out.2
  have Hun := Lib.hid HU.out
  have hm63 : m ≤ 9223372036854775807 := by omega
  have hu63 : un ≤ 9223372036854775807 := by omega
  have HRall := Lib.hid (fun x (hx : In R x) (w5 : World) (v : Value) (hu5 : Upd (fun b => Value.ownBlock v = some b) x w5) (hv : ∀ g, Value.ownBlock v = some g → w.heap.size + 1 ≤ g) => show In R w5 from hRall x w5 hx (hu5.below (by have := World.block_lt_of_cell? x _ (y0 x hx); exact this) (fun b hb => hv b hb)))
  clear hRall
  clear hy hl ho hu HN HU
  go_enter Tryz.func11, Tryz.ntmps11
  go_wp2_with fail
  go_loopw [5, 6] (fun v s6 wr => ∃ (i : Nat) (id : Int) (q : Option Addr × Nat × Nat), i ≤ 99 ∧ Hid (id = (i : Int) + 1) ∧ 1 ≤ id ∧ id ≤ 100 ∧ s6 = .int .i64 id ∧ v = .slice q.1 q.2.1 q.2.2 ∧ Hid (wr.ownsRow (w.heap.size + 1) 3 1 v (wantTo l p i).length ((wantTo l p i).map (Value.int .i64))) ∧ In R wr) (fun _ s6 _ => 100 - (intOf s6).toNat)
  case atStart => exact ⟨0, 1, (none, 0, 0), by omega, rfl, by omega, by omega, rfl, rfl, World.ownsRow_nil _ _ _ _, hR1⟩
  case round =>
    obtain ⟨i, id, ⟨qa, qn, qc⟩, hi, Hi, hid1, hid2, rfl, hv, HO, hRw⟩ := hrel
    subst hv
    clear hR1
    obtain ⟨wo, rfl⟩ : ∃ wo : World, wo = wr := ⟨_, rfl⟩
    have y0w := y0 _ hRw
    have y1w := y1 _ hRw
    by_cases hlt : id ≤ 99
    · have hd : decide (id ≤ 99) = true := decide_eq_true hlt
      go_wp2_with fail
      go_loop [7, 8] (fun s7 s8 => ∃ j : Nat, j ≤ m ∧ s8 = .int .i64 j ∧ s7 = .bool (namedO p id j)) (fun _ s8 => m - (intOf s8).toNat)
      case atStart => exact ⟨0, by omega, rfl, by unfold namedO; rfl⟩
      case round =>
        obtain ⟨j, hj, rfl, rfl⟩ := hrel
        by_cases hltj : j < m
        · obtain ⟨b, off, rfl, hb, k0, k1, k2, k3⟩ := h4 (by omega)
          have x2 := k2 j wo hltj (hRb _ hRw)
          have hlk := (h5 j hltj).1.below (hRb _ hRw)
          obtain ⟨ka, kn, kc, HK, ek, e1, e2, e3, e4⟩ := hlk.open
          cases ek
          have Hnx := Lib.hid (namedO_next (p := p) (id := id) (i := j) (by have := Hm.out; omega))
          rw [← HK.out] at Hnx
          have hi1 : (0 : Int) ≤ (j : Int) := by omega
          have hi2 : (j : Int) < (m : Int) := by omega
          have hk63 : ln j ≤ 9223372036854775807 := by omega
          generalize hno : namedO p id j = nb at *
          generalize hls : (obj p.objects j).links = ls at *
          clear k0 k1 k2 k3 h4 hlk hno hls
          have HK2 := Lib.hid HK.out
          go_wp2_with fail
          go_loop [7, 9] (fun s7 s9 => ∃ k : Nat, k ≤ ln j ∧ s9 = .int .i64 k ∧ s7 = .bool (namedK nb ls id k)) (fun _ s9 => ln j - (intOf s9).toNat)
          case atStart => exact ⟨0, by omega, rfl, by unfold namedK; simp⟩
          case round =>
            obtain ⟨k, hk, rfl, rfl⟩ := hrel
            by_cases hltk : k < ln j
            · obtain ⟨b2, off2, he2, hb2, kk⟩ := e4 (by omega)
              rw [he2] at x2
              have x5 := kk k wo hltk (Below.refl _ _)
              have Hkn := Lib.hid (namedK_next (b := nb) (ls := ls) (id := id) (k := k) (by have := HK2.out; omega))
              have hi3 : (0 : Int) ≤ (k : Int) := by omega
              have hi4 : (k : Int) < (ln j : Int) := by omega
              clear e4 kk
              cases hkb : namedK nb ls id k
              · cases hq : (nth ls k == id)
                all_goals
                  rw [hkb, hq] at Hkn
                  go_wp2_with fail
                  go_round
                  case rel => exact ⟨k + 1, by omega, by go_num, by rw [Hkn.out]; rfl⟩
                  case measure => simp [intOf]; omega
              · rw [hkb] at Hkn
                go_wp2_with fail
                go_round
                case rel => exact ⟨k + 1, by omega, by go_num, by rw [Hkn.out]; rfl⟩
                case measure => simp [intOf]; omega
            · obtain rfl : k = ln j := by omega
              go_wp2_with fail
              go_round
              case rel => exact ⟨j + 1, by omega, by go_num, by rw [Hnx.out]⟩
              case measure => simp [intOf]; omega
        · obtain rfl : j = m := by omega
          have Hnm := Lib.hid (show namedU (namedO p id j) p.updates id un = namedB p id by rw [Hm.out, Hun.out]; exact named_eq)
          generalize namedO p id j = nb at *
          go_wp2_with fail
          go_loop [7, 10] (fun s7 s10 => ∃ k : Nat, k ≤ un ∧ s10 = .int .i64 k ∧ s7 = .bool (namedU nb p.updates id k)) (fun _ s10 => un - (intOf s10).toNat)
          case atStart => exact ⟨0, by omega, rfl, by unfold namedU; simp⟩
          case round =>
            obtain ⟨k, hk, rfl, rfl⟩ := hrel
            by_cases hltk : k < un
            · obtain ⟨b, off, rfl, hb, k0, k1, k2⟩ := u4 (by omega)
              have x2 := k2 k wo hltk (hRb _ hRw)
              have Hkn := Lib.hid (namedU_next (b := nb) (us := p.updates) (id := id) (k := k) (by have := Hun.out; omega))
              have hi3 : (0 : Int) ≤ (k : Int) := by omega
              have hi4 : (k : Int) < (un : Int) := by omega
              clear u4 k0 k1 k2
              cases hkb : namedU nb p.updates id k
              · cases hq : ((mv p.updates k).new == id)
                all_goals
                  rw [hkb, hq] at Hkn
                  go_wp2_with fail
                  go_round
                  case rel => exact ⟨k + 1, by omega, by go_num, by rw [Hkn.out]; rfl⟩
                  case measure => simp [intOf]; omega
              · rw [hkb] at Hkn
                go_wp2_with fail
                go_round
                case rel => exact ⟨k + 1, by omega, by go_num, by rw [Hkn.out]; rfl⟩
                case measure => simp [intOf]; omega
            · obtain rfl : k = un := by omega
              rw [Hnm.out]
              have Hl1 := Lib.hid (Hl.out id wo (hRb _ hRw))
              have Hp1 := Lib.hid (Hp.out id wo (hRb _ hRw))
              have HW := Lib.hid (show wantB l p id = (namedB p id && (decide (atOf l id < 0) && decide (atOf p.objects id < 0))) from rfl)
              have HWn := Lib.hid (show wantTo l p (i + 1) = wantTo l p i ++ (if wantB l p id then [id] else []) by rw [wantTo_next, Hi.out])
              have Hwl := Lib.hid (wantTo_length l p i)
              have Hin := Lib.hid (show id + 1 = ((i + 1 : Nat) : Int) + 1 by rw [Hi.out]; omega)
              have Hil := Lib.hid (show i < 99 by have := Hi.out; omega)
              have hszB : w.heap.size + 1 ≤ wo.heap.size := World.block_lt_of_cell? wo _ y0w
              cases hn : namedB p id <;> cases ha : decide (atOf l id < 0) <;> cases hb : decide (atOf p.objects id < 0)
              case true.true.true =>
                rw [hn, ha, hb] at HW
                go_wp2_with (first
                  | (at_builtin; refine wpList_append_int (z := id) rfl _ _ rfl HO.out (by have := Hwl.out; omega) hszB rfl rfl (by first | rfl | simp) ?_)
                  | ((with_reducible refine Hl1.out.mono ?_); rintro e w' ⟨rfl, rfl⟩)
                  | ((with_reducible refine Hp1.out.mono ?_); rintro e w' ⟨rfl, rfl⟩))
                intro v' w5 hG5 hu5
                have hR5 := HRall.out _ hRw w5 _ hu5 (fun g hg => (HO.out.lt g hg).1)
                have HG5 := Lib.hid (show w5.ownsRow (w.heap.size + 1) 3 1 v' (wantTo l p (i + 1)).length ((wantTo l p (i + 1)).map (Value.int .i64)) by
                  rw [HWn.out, HW.out]
                  simp only [Bool.and_self, if_true, List.length_append, List.length_singleton, List.map_append]
                  exact hG5)
                obtain ⟨pv, hpv⟩ : ∃ p : Option Addr × Nat × Nat, v' = .slice p.1 p.2.1 p.2.2 := let ⟨a, c, h⟩ := own_shape hG5; ⟨(a, _, c), h⟩
                clear hG5 hu5
                subst hpv
                go_wp2_with fail
                go_roundw
                case rel => exact ⟨i + 1, id + 1, pv, by have := Hil.out; omega, Hin.out, by omega, by omega, by go_num, rfl, HG5, hR5⟩
                case measure => simp [intOf]; omega
              all_goals
                have HW0 := Lib.hid (show wantB l p id = false by rw [HW.out, hn, ha, hb]; rfl)
                have HG5 := Lib.hid (show wo.ownsRow (w.heap.size + 1) 3 1 (.slice qa qn qc) (wantTo l p (i + 1)).length ((wantTo l p (i + 1)).map (Value.int .i64)) by
                  rw [HWn.out, HW0.out]
                  simp only [Bool.false_eq_true, if_false, List.append_nil]
                  exact HO.out)
                go_wp2_with (first
                  | ((with_reducible refine Hl1.out.mono ?_); rintro e w' ⟨rfl, rfl⟩)
                  | ((with_reducible refine Hp1.out.mono ?_); rintro e w' ⟨rfl, rfl⟩))
                go_roundw
                case rel => exact ⟨i + 1, id + 1, (qa, qn, qc), by have := Hil.out; omega, Hin.out, by omega, by omega, by go_num, rfl, HG5, hRw⟩
                case measure => simp [intOf]; omega
    · have hd : decide (id ≤ 99) = false := decide_eq_false hlt
      have Hi99 := Lib.hid (show i = 99 by have := Hi.out; omega)
      have HO2 := Lib.hid HO.out
      rw [Hi99.out] at HO2
      go_wp2_with fail
      go_ret
      refine ⟨_, rfl, ?_, hRb _ hRw⟩
      have hwl := wantTo_length l p 99
      exact (own_ints' (zs := wantTo l p 99) HO2.out rfl (fun z hz => by
        unfold wantTo at hz
        obtain ⟨hz, _⟩ := List.mem_filter.1 hz
        obtain ⟨i, hi, e⟩ := List.mem_map.1 hz
        have := List.mem_range.1 hi
        unfold I64; omega) (by omega)).weaken (S' := fun _ => True) (fun _ _ => trivial)
end Go.Proofs.YtemdnkoknjmheaaGreat
