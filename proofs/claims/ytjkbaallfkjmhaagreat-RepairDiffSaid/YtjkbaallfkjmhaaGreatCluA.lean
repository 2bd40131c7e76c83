
/- CluA: walks of slices.Clone of updates, push.Own, replica.Own. -/
import Derived.Test.YtjkbaallfkjmhaaGreatRepC
import Derived.Test.YtjkbaallfkjmhaaGreatRowU
namespace Go.Proofs.YtjkbaallfkjmhaaGreat
open Go.RowKit
set_option linter.unusedVariables false
set_option linter.unusedSimpArgs false

theorem mvs_news {S : Nat → Prop} {w : World} {a : Option Addr} {n cap : Nat} {l : List Mv} (h : MvsV S w (.slice a n cap) l) (hn : 0 < l.length) :
    ∃ ad, a = some ad ∧ ∀ j u, (flat (fun i => mvCells (mv l i)) l.length)[j]? = some u → w.cell? (ad.add j) = some u := by
  obtain ⟨⟨a', cap', hv, h1, h2, h3, h4⟩, _⟩ := h
  cases hv
  obtain ⟨b, off, rfl, hb, hc⟩ := h4 hn
  refine ⟨_, rfl, fun j u hu => ?_⟩
  have hj : j < l.length * 3 := by
    rcases Nat.lt_or_ge j (l.length * 3) with h | h
    · exact h
    · rw [List.getElem?_eq_none (by rw [flat_length (sz := 3) fun _ _ => rfl]; exact h)] at hu; cases hu
  have hi' : j / 3 < l.length := by omega
  have hm : j % 3 < (mvCells (mv l (j / 3))).length := by show j % 3 < 3; omega
  have e := flat_get (cs := fun i => mvCells (mv l i)) (sz := 3) (n := l.length) (fun _ _ => rfl) (j / 3) hi' (j % 3) _ (List.getElem?_eq_getElem hm)
  rw [show j / 3 * 3 + j % 3 = j by omega, hu] at e
  have := hc (j / 3) hi' (j % 3) u (by show (mvCells (mv l (j / 3)))[j % 3]? = some u; rw [List.getElem?_eq_getElem hm]; exact e.symm)
  rw [show (⟨b, off, none⟩ : Addr).add j = ⟨b, off + j, none⟩ by unfold Addr.add; split <;> simp_all]
  rw [show off + j = off + j / 3 * 3 + j % 3 by omega]; exact this
theorem one_flat_mv (l : List Mv) : ∀ u ∈ flat (fun i => mvCells (mv l i)) l.length, u.oneCell' = true := one_flat fun _ _ => one_mv _

/-- 'append(v, more...)' -/
theorem appendMvs_row {B : Nat} {w : World} {v mv : Value} {l more : List Mv} {S : Nat → Prop} (ty : TypeId) (hG : OwnU B w v l) (h : MvsV S w mv more)
    (hl : (l.length + more.length) * 32 ≤ 140737488351232) (hB : B ≤ w.heap.size) :
    ∃ v' x, (Builtin.append_ #[24, 24] ty #[v, mv]).run Tryz.prog w = .ok v' x ∧ OwnU B x v' (l ++ more) ∧ Upd (fun b => v.ownBlock = some b) w x := by
  obtain ⟨i0, hi, hz0, hz1, hz2⟩ := info_parts Tryz.infoUpd
  have hG' := hG
  obtain ⟨hown, hok⟩ := hG
  have h' := h
  obtain ⟨⟨a, cap, rfl, hc1, hc2, hc3, _⟩, hok2⟩ := h
  have hok3 : ∀ r ∈ l ++ more, MvOk r := fun r hr => by
    rcases List.mem_append.1 hr with hr | hr
    · exact hok r hr
    · exact hok2 r hr
  by_cases h0 : more.length = 0
  · obtain rfl : more = [] := List.length_eq_zero_iff.1 h0
    obtain ⟨base, sc, hv, hle⟩ : ∃ base sc, v = .slice base l.length sc ∧ l.length ≤ sc := by
      rcases hown.2 with ⟨rfl, hn⟩ | ⟨g, c, cur, rfl, _, _, hn, _⟩
      · exact ⟨none, 0, by rw [hn], by omega⟩
      · exact ⟨_, _, rfl, hn⟩
    subst hv
    refine ⟨_, w, run_append_nothing _ 24 24 ty 52 i0 Tryz.underlying24 hi base l.length sc hle _
      ⟨.inl ⟨_, Tryz.underlying24⟩, fun w' => by simp [Builtin.lenOf], by cases a <;> simp [Builtin.firstCells] <;> rfl, by cases a <;> simp [Builtin.firstCells] <;> rfl, by simp, by simp⟩, ?_, Upd.refl _ _⟩
    rw [List.append_nil]; exact hG'
  · obtain ⟨ad, rfl, hnews⟩ := mvs_news h' (by omega)
    obtain ⟨g, c, x, hr, ho, hg, hor, hlt⟩ := run_append_lies (P := Tryz.prog) w 24 ty B 52 i0 _ 3 32 Tryz.underlying24 hi hz0 hz1 hz2 rfl (by omega) v l.length _ hown ad more.length cap
      (flat (fun i => mvCells (mv more i)) more.length) (flat_length fun _ _ => rfl) hnews (one_flat_mv _) (by omega) (by unfold maxLen; omega) (by omega) hB _ rfl
    refine ⟨_, x, hr, ⟨?_, hok3⟩, Upd.grown (Upd.refl _ _) hg (fun k hk _ => hk)⟩
    rw [List.length_append, flat_add]
    have e1 : flat (fun i => mvCells (mv (l ++ more) i)) l.length = flat (fun i => mvCells (mv l i)) l.length :=
      flat_congr fun i hi => by
        have : mv (l ++ more) i = mv l i := by unfold mv at_; simp only [List.getD_eq_getElem?_getD, List.getElem?_append_left hi]
        rw [this]
    have e2 : flat (fun j => mvCells (mv (l ++ more) (l.length + j))) more.length = flat (fun i => mvCells (mv more i)) more.length :=
      flat_congr fun i hi => by
        have : mv (l ++ more) (l.length + i) = mv more i := by
          unfold mv at_; simp only [List.getD_eq_getElem?_getD]
          rw [List.getElem?_append_right (by omega), show l.length + i - l.length = i by omega]
        rw [this]
    rw [e1, e2]; exact ho

theorem ownU_empty (w : World) : OwnU w.heap.size (w.alloc (.cells #[] 52)) (.slice (some ⟨w.heap.size, 0, none⟩) 0 0) [] :=
  ⟨World.ownsRow_made w #[] 0 (Nat.le_refl _) (Nat.zero_le _) (by simp), fun r h => by cases h⟩

set_option maxHeartbeats 1000000 in
/-- slices.Clone of updates -/
theorem cloneMvs_any (l : List Mv) (v : Value) (S : Nat → Prop) (w : World) (h : MvsV S w v l) :
    Calls Tryz.prog 103 #[v] w fun e w' => ∃ v', e = .returned v' ∧ OwnU w.heap.size w' v' l ∧ Below w.heap.size w w' := by
  have h' := h
  obtain ⟨a, n, cap, HN, rfl, h1, h2, h3, h4⟩ := h.open
  clear h4 h
  have q22 : ∀ (w : World) (a : Option Addr) (n c n' c' : Nat), (binOp .eql 24 (.slice a n c) (.slice none n' c')).run Tryz.prog w = .ok (.bool a.isNone) w := fun w a n c n' c' => Lib.run_eql_slice_nil w _ _ a n c n' c' Tryz.underlying24
  cases a with
  | none =>
    have hl0 : l = [] := by
      obtain ⟨⟨a, cap, e, _, _, _, h4⟩, _⟩ := h'
      cases e
      rcases Nat.eq_zero_or_pos l.length with h | h
      · exact List.length_eq_zero_iff.1 h
      · obtain ⟨b, off, e, _⟩ := h4 h; cases e
    subst hl0
    go_enter Tryz.func103, Tryz.ntmps103
    go_wp2_with fail
    go_ret
    exact ⟨_, rfl, OwnU.nil _ _, Below.refl _ _⟩
  | some ad =>
    have hB0 : Below w.heap.size w (w.alloc (.cells #[] 52)) := (Below.refl _ _).alloc (Nat.le_refl _) _
    obtain ⟨v1, x1, hr1, ho1, hu1⟩ := appendMvs_row (l := []) 24 (ownU_empty w) (h'.below hB0) (by have := HN.out; simp; omega) hB0.size
    have hB1 : Below w.heap.size w x1 := hB0.trans (hu1.below (B := w.heap.size) hB0.size (fun b hb => ((ownU_empty w).block hb).1))
    rw [List.nil_append] at ho1
    have HE := Lib.hid (And.intro ho1 hB1)
    obtain ⟨a1, c1, rfl⟩ := ho1.shape
    clear ho1 hB1 hu1 hB0 h'
    go_enter Tryz.func103, Tryz.ntmps103
    go_wp2_with (at_builtin; refine wpList_append_run rfl (.tmp 5) (.tmp 6) 24 rfl _ _ _ rfl rfl hr1 ?_)
    go_ret
    exact ⟨_, rfl, HE.out.1, HE.out.2⟩


theorem MvsV.bytes {S : Nat → Prop} {w : World} {v : Value} {l : List Mv} (h : MvsV S w v l) : l.length * 32 ≤ 140737488351232 :=
  let ⟨⟨_, _, _, _, _, h3, _⟩, _⟩ := h; h3
theorem StoreV.bytes {S : Nat → Prop} {w : World} {v : Value} {l : List Obj} (h : StoreV S w v l) : l.length * 56 ≤ 140737488351232 :=
  let ⟨_, ⟨_, _, _, _, _, h3, _⟩, _⟩ := h; h3

/-- what a push reads as -/
def PshAt (S : Nat → Prop) (w : World) (p : Psh) (ov uv : Value) : Prop := StoreV S w ov p.objects ∧ MvsV S w uv p.updates
theorem PshAt.below {S : Nat → Prop} {w w' : World} {p : Psh} {ov uv : Value} (h : PshAt S w p ov uv) (hb : Below w.heap.size w w') : PshAt S w' p ov uv := ⟨h.1.below hb, h.2.below hb⟩

set_option maxRecDepth 100000 in
set_option maxHeartbeats 2000000 in
theorem pushOwn_any (p : Psh) (ov uv : Value) (S S1 : Nat → Prop) (w : World) (ho : StoreV S w ov p.objects) (hu : MvsV S1 w uv p.updates) :
    Calls Tryz.prog 91 #[pshV p ov uv] w fun e w' => RetPsh w w' e p := by
  have H := Lib.hid (And.intro ho hu)
  obtain ⟨oa, oc, rfl⟩ := ho.vshape
  obtain ⟨⟨ua, uc⟩, rfl⟩ := hu.shape
  have h56 := ho.bytes
  have h32 := hu.bytes
  clear ho hu
  simp only [pshV]
  obtain ⟨Q, hQ, hQ1, HB0⟩ := cls_allocs w [.cells #[.slice oa p.objects.length oc, .slice ua p.updates.length uc, .bool p.force] 26, .cells #[.slice none 0 0, .slice none 0 0, .bool false] 26]
  simp only [List.foldl] at hQ1
  have hQn := hQ.next
  have hQb := hQ.below
  have HZ := Lib.hid (fun x (hx : In Q x) => HB0 x hx 1 _ rfl)
  have HN := Lib.hid (fun x (hx : In Q x) => show w.heap.size + 2 ≤ x.heap.size from lt_of_block (HB0 x hx 1 _ rfl))
  have HS : ∀ x, In Q x → (fun x : World => x.cell? ⟨w.heap.size, 0, none⟩ = some (.slice oa p.objects.length oc) ∧ x.cell? ⟨w.heap.size, 1, none⟩ = some (.slice ua p.updates.length uc) ∧ x.cell? ⟨w.heap.size, 2, none⟩ = some (.bool p.force)) x := fun x hx => ⟨block_cell (j := 0) (HB0 x hx 0 _ rfl) rfl, block_cell (j := 1) (HB0 x hx 0 _ rfl) rfl, block_cell (j := 2) (HB0 x hx 0 _ rfl) rfl⟩
  have HA := Lib.hid (fun x (hx : In Q x) => storeOwn_any p.objects _ _ x (H.out.1.below (hQb _ hx)))
  have HU := Lib.hid (fun x (hx : In Q x) => cloneMvs_any p.updates _ _ x (H.out.2.below (hQb _ hx)))
  clear HB0
  go_enter Tryz.func91, Tryz.ntmps91
  go_wp2_with fail
  refine wp_region_held (S := (fun x : World => x.cell? ⟨w.heap.size, 0, none⟩ = some (.slice oa p.objects.length oc) ∧ x.cell? ⟨w.heap.size, 1, none⟩ = some (.slice ua p.updates.length uc) ∧ x.cell? ⟨w.heap.size, 2, none⟩ = some (.bool p.force))) (by kernel_rfl) ?_
  change wpAnyH _ _ _ _ _ _ _ _ (World.drew _)
  have hC0 := hQ.drew _ hQ1
  generalize ((w.alloc _).alloc _).drew = x0 at hC0 ⊢
  clear hQ1
  have hS0 := HS _ hC0
  refine wpAnyH_take (i := 0) (v := .pointer (some ⟨w.heap.size, 0, none⟩)) rfl (by kernel_rfl) (by kernel_rfl) (by kernel_rfl) (fun _ _ _ h => h) (Or.inl ⟨by rfl, fun w hSw => ?_⟩) hS0 ?_
  · go_simp
  simp only [Act.put, List.setIfInBounds_toArray, List.set_cons_zero, List.set_cons_succ]
  refine wpAnyH_take (i := 1) (v := .slice oa p.objects.length oc) rfl (by kernel_rfl) (by kernel_rfl) (by kernel_rfl) (fun _ _ _ h => h) (Or.inl ⟨by rfl, fun w hSw => ?_⟩) hS0 ?_
  · have yy := hSw.1; go_simp
  simp only [Act.put, List.setIfInBounds_toArray, List.set_cons_zero, List.set_cons_succ]
  refine wpAnyH_take (i := 3) (v := .pointer (some ⟨w.heap.size, 1, none⟩)) rfl (by kernel_rfl) (by kernel_rfl) (by kernel_rfl) (fun _ _ _ h => h) (Or.inl ⟨by rfl, fun w hSw => ?_⟩) hS0 ?_
  · go_simp
  simp only [Act.put, List.setIfInBounds_toArray, List.set_cons_zero, List.set_cons_succ]
  refine wpAnyH_take (i := 4) (v := .slice ua p.updates.length uc) rfl (by kernel_rfl) (by kernel_rfl) (by kernel_rfl) (fun _ _ _ h => h) (Or.inl ⟨by rfl, fun w hSw => ?_⟩) hS0 ?_
  · have yy := hSw.2.1; go_simp
  simp only [Act.put, List.setIfInBounds_toArray, List.set_cons_zero, List.set_cons_succ]
  refine wpAnyH_take (i := 6) (v := .pointer (some ⟨w.heap.size, 2, none⟩)) rfl (by kernel_rfl) (by kernel_rfl) (by kernel_rfl) (fun _ _ _ h => h) (Or.inl ⟨by rfl, fun w hSw => ?_⟩) hS0 ?_
  · go_simp
  simp only [Act.put, List.setIfInBounds_toArray, List.set_cons_zero, List.set_cons_succ]
  refine wpAnyH_take (i := 7) (v := .bool p.force) rfl (by kernel_rfl) (by kernel_rfl) (by kernel_rfl) (fun _ _ _ h => h) (Or.inl ⟨by rfl, fun w hSw => ?_⟩) hS0 ?_
  · have yy := hSw.2.2; go_simp
  simp only [Act.put, List.setIfInBounds_toArray, List.set_cons_zero, List.set_cons_succ]
  refine wpAnyH_all (rs := [2]) (by kernel_rfl) (by simp) (fun j hj => ?_)
  obtain rfl : j = 2 := by simpa using hj
  refine Or.inl ?_
  go_wp2_with fail
  refine (HA.out _ hC0).mono ?_
  rintro e x1 ⟨vA, rfl, hvA, hb2⟩
  have hC1 := hQn _ _ hC0 hb2
  have hs0 := HN.out _ hC0
  obtain ⟨a1, c1, rfl⟩ := hvA.gath.shape
  have HvA := Lib.hid ((hvA.store h56).weaken (S' := fun b => w.heap.size + 2 ≤ b) (fun b hb => by omega))
  clear hvA
  clear hb2
  have hS1 := HS _ hC1
  go_simp
  refine wpAnyH_all (rs := [5]) (by kernel_rfl) (by simp) (fun j hj => ?_)
  obtain rfl : j = 5 := by simpa using hj
  refine Or.inl ?_
  go_wp2_with fail
  refine (HU.out _ hC1).mono ?_
  rintro e x2 ⟨vU, rfl, hvU, hb5⟩
  have hC2 := hQn _ _ hC1 hb5
  have hs1 := HN.out _ hC1
  obtain ⟨a2, c2, rfl⟩ := hvU.shape
  have HvU := Lib.hid ((hvU.mvs h32).weaken (S' := fun b => w.heap.size + 2 ≤ b) (fun b hb => by omega))
  clear hvU
  replace HvA := Lib.hid (HvA.out.below hb5)
  clear hb5
  have hS2 := HS _ hC2
  go_simp
  refine wpAnyH_all (rs := [8]) (by kernel_rfl) (by simp) (fun j hj => ?_)
  obtain rfl : j = 8 := by simpa using hj
  refine Or.inl ?_
  go_simp
  refine wpAnyH_all (rs := [9]) (by kernel_rfl) (by simp) (fun j hj => ?_)
  obtain rfl : j = 9 := by simpa using hj
  refine Or.inl ?_
  have hblk := HZ.out _ hC2
  have g0 := block_cell (j := 0) hblk rfl
  have g1 := block_cell (j := 1) hblk rfl
  have g2 := block_cell (j := 2) hblk rfl
  have f0 := block_free (j := 0) hblk
  have f1 := block_free (j := 1) hblk
  have f2 := block_free (j := 2) hblk
  have hb3 := set3_is (v0 := .slice a1 p.objects.length c1) (v1 := .slice a2 p.updates.length c2) (v2 := .bool p.force) hblk
  have hu3 := set3_upd (w.heap.size + 1) (.slice a1 p.objects.length c1) (.slice a2 p.updates.length c2) (.bool p.force) x2
  have Hb3 := Lib.hid hb3
  have Hu3 := Lib.hid hu3
  clear hb3 hu3
  go_wp2_with fail
  refine ⟨by kernel_rfl, ?_⟩
  change Exit.then _ _ _ _ (set3 (w.heap.size + 1) (.slice a1 p.objects.length c1) (.slice a2 p.updates.length c2) (.bool p.force) x2)
  have hb3 := Hb3.out
  have hu3 := Hu3.out
  clear Hb3 Hu3
  generalize set3 (w.heap.size + 1) (.slice a1 p.objects.length c1) (.slice a2 p.updates.length c2) (.bool p.force) x2 = w3 at *
  have k0 := block_cell (j := 0) hb3 rfl
  have k1 := block_cell (j := 1) hb3 rfl
  have k2 := block_cell (j := 2) hb3 rfl
  clear g0 g1 g2 f0 f1 f2 hblk hb3
  have hsz := (hQb _ hC2).size
  have hB3 : Below w.heap.size w w3 := (hQb _ hC2).trans (hu3.below (B := w.heap.size) hsz (fun b hb => by omega))
  go_wp2_with fail
  refine bodyPost_ret (v := .agg #[.slice a1 p.objects.length c1, .slice a2 p.updates.length c2, .bool p.force]) (by simp [results, Tryz.results91, go_sem]; simp [k0, k1, k2] <;> rfl) rfl ?_
  exact ⟨_, _, rfl, (HvA.out.upd' hu3 (fun b hb e => by omega)).weaken fun b hb => by omega, (HvU.out.upd hu3 (fun b hb e => by omega)).weaken fun b hb => by omega, hB3⟩

set_option maxRecDepth 100000 in
set_option maxHeartbeats 4000000 in
theorem repOwn_any (r : Rep) (sv rv ov uv : Value) (S : Nat → Prop) (w : World) (h : RepIs S w r sv rv ov uv) :
    Calls Tryz.prog 59 #[repV r sv rv ov uv] w fun e w' => RetRep w w' e r := by
  have H := Lib.hid h
  have h56 := h.store.bytes
  have h24 := h.refs.bytes
  obtain ⟨sa, sc, rfl⟩ := h.store.vshape
  obtain ⟨⟨ra, rc⟩, rfl⟩ := h.refs.shape
  obtain ⟨oa, oc, rfl⟩ := h.objs.vshape
  obtain ⟨⟨ua, uc⟩, rfl⟩ := h.upds.shape
  clear h
  simp only [repV]
  obtain ⟨Q, hQ, hQ1, HB0⟩ := cls_allocs w [.cells #[.slice sa r.store.length sc, .slice ra r.refs.length rc, .int .i64 r.gen, .int .i64 r.phase, .slice oa r.pend.objects.length oc, .slice ua r.pend.updates.length uc, .bool r.pend.force] 28, .cells #[.slice none 0 0, .slice none 0 0, .int .i64 0, .int .i64 0, .slice none 0 0, .slice none 0 0, .bool false] 28]
  simp only [List.foldl] at hQ1
  have hQn := hQ.next
  have hQb := hQ.below
  have HZ := Lib.hid (fun x (hx : In Q x) => HB0 x hx 1 _ rfl)
  have HN := Lib.hid (fun x (hx : In Q x) => show w.heap.size + 2 ≤ x.heap.size from lt_of_block (HB0 x hx 1 _ rfl))
  have HS : ∀ x, In Q x → (fun x : World => x.cell? ⟨w.heap.size, 0, none⟩ = some (.slice sa r.store.length sc) ∧ x.cell? ⟨w.heap.size, 1, none⟩ = some (.slice ra r.refs.length rc) ∧ x.cell? ⟨w.heap.size, 2, none⟩ = some (.int .i64 r.gen) ∧ x.cell? ⟨w.heap.size, 3, none⟩ = some (.int .i64 r.phase) ∧ x.cell? ⟨w.heap.size, 4, none⟩ = some (.slice oa r.pend.objects.length oc) ∧ x.cell? ⟨w.heap.size, 5, none⟩ = some (.slice ua r.pend.updates.length uc) ∧ x.cell? ⟨w.heap.size, 6, none⟩ = some (.bool r.pend.force)) x := fun x hx => ⟨block_cell (j := 0) (HB0 x hx 0 _ rfl) rfl, block_cell (j := 1) (HB0 x hx 0 _ rfl) rfl, block_cell (j := 2) (HB0 x hx 0 _ rfl) rfl, block_cell (j := 3) (HB0 x hx 0 _ rfl) rfl, block_cell (j := 4) (HB0 x hx 0 _ rfl) rfl, block_cell (j := 5) (HB0 x hx 0 _ rfl) rfl, block_cell (j := 6) (HB0 x hx 0 _ rfl) rfl⟩
  have HA := Lib.hid (fun x (hx : In Q x) => storeOwn_any r.store _ _ x (H.out.store.below (hQb _ hx)))
  have HU := Lib.hid (fun x (hx : In Q x) => cloneRefs_any r.refs _ _ x (H.out.refs.below (hQb _ hx)))
  have HP := Lib.hid (fun x (hx : In Q x) => pushOwn_any r.pend _ _ _ _ x (H.out.objs.below (hQb _ hx)) (H.out.upds.below (hQb _ hx)))
  simp only [pshV] at HP
  clear HB0
  go_enter Tryz.func59, Tryz.ntmps59
  go_wp2_with fail
  refine wp_region_held (S := (fun x : World => x.cell? ⟨w.heap.size, 0, none⟩ = some (.slice sa r.store.length sc) ∧ x.cell? ⟨w.heap.size, 1, none⟩ = some (.slice ra r.refs.length rc) ∧ x.cell? ⟨w.heap.size, 2, none⟩ = some (.int .i64 r.gen) ∧ x.cell? ⟨w.heap.size, 3, none⟩ = some (.int .i64 r.phase) ∧ x.cell? ⟨w.heap.size, 4, none⟩ = some (.slice oa r.pend.objects.length oc) ∧ x.cell? ⟨w.heap.size, 5, none⟩ = some (.slice ua r.pend.updates.length uc) ∧ x.cell? ⟨w.heap.size, 6, none⟩ = some (.bool r.pend.force))) (by kernel_rfl) ?_
  change wpAnyH _ _ _ _ _ _ _ _ (World.drew _)
  have hC0 := hQ.drew _ hQ1
  generalize ((w.alloc _).alloc _).drew = x0 at hC0 ⊢
  clear hQ1
  have hS0 := HS _ hC0
  refine wpAnyH_take (i := 0) (v := .pointer (some ⟨w.heap.size, 0, none⟩)) rfl (by kernel_rfl) (by kernel_rfl) (by kernel_rfl) (fun _ _ _ h => h) (Or.inl ⟨by rfl, fun w hSw => ?_⟩) hS0 ?_
  · go_simp
  simp only [Act.put, List.setIfInBounds_toArray, List.set_cons_zero, List.set_cons_succ]
  refine wpAnyH_take (i := 1) (v := .slice sa r.store.length sc) rfl (by kernel_rfl) (by kernel_rfl) (by kernel_rfl) (fun _ _ _ h => h) (Or.inl ⟨by rfl, fun w hSw => ?_⟩) hS0 ?_
  · have yy := hSw.1; go_simp
  simp only [Act.put, List.setIfInBounds_toArray, List.set_cons_zero, List.set_cons_succ]
  refine wpAnyH_take (i := 3) (v := .pointer (some ⟨w.heap.size, 1, none⟩)) rfl (by kernel_rfl) (by kernel_rfl) (by kernel_rfl) (fun _ _ _ h => h) (Or.inl ⟨by rfl, fun w hSw => ?_⟩) hS0 ?_
  · go_simp
  simp only [Act.put, List.setIfInBounds_toArray, List.set_cons_zero, List.set_cons_succ]
  refine wpAnyH_take (i := 4) (v := .slice ra r.refs.length rc) rfl (by kernel_rfl) (by kernel_rfl) (by kernel_rfl) (fun _ _ _ h => h) (Or.inl ⟨by rfl, fun w hSw => ?_⟩) hS0 ?_
  · have yy := hSw.2.1; go_simp
  simp only [Act.put, List.setIfInBounds_toArray, List.set_cons_zero, List.set_cons_succ]
  refine wpAnyH_take (i := 6) (v := .pointer (some ⟨w.heap.size, 2, none⟩)) rfl (by kernel_rfl) (by kernel_rfl) (by kernel_rfl) (fun _ _ _ h => h) (Or.inl ⟨by rfl, fun w hSw => ?_⟩) hS0 ?_
  · go_simp
  simp only [Act.put, List.setIfInBounds_toArray, List.set_cons_zero, List.set_cons_succ]
  refine wpAnyH_take (i := 7) (v := .int .i64 r.gen) rfl (by kernel_rfl) (by kernel_rfl) (by kernel_rfl) (fun _ _ _ h => h) (Or.inl ⟨by rfl, fun w hSw => ?_⟩) hS0 ?_
  · have yy := hSw.2.2.1; go_simp
  simp only [Act.put, List.setIfInBounds_toArray, List.set_cons_zero, List.set_cons_succ]
  refine wpAnyH_take (i := 8) (v := .pointer (some ⟨w.heap.size, 3, none⟩)) rfl (by kernel_rfl) (by kernel_rfl) (by kernel_rfl) (fun _ _ _ h => h) (Or.inl ⟨by rfl, fun w hSw => ?_⟩) hS0 ?_
  · go_simp
  simp only [Act.put, List.setIfInBounds_toArray, List.set_cons_zero, List.set_cons_succ]
  refine wpAnyH_take (i := 9) (v := .int .i64 r.phase) rfl (by kernel_rfl) (by kernel_rfl) (by kernel_rfl) (fun _ _ _ h => h) (Or.inl ⟨by rfl, fun w hSw => ?_⟩) hS0 ?_
  · have yy := hSw.2.2.2.1; go_simp
  simp only [Act.put, List.setIfInBounds_toArray, List.set_cons_zero, List.set_cons_succ]
  refine wpAnyH_take (i := 10) (v := .pointer (some ⟨w.heap.size, 4, none⟩)) rfl (by kernel_rfl) (by kernel_rfl) (by kernel_rfl) (fun _ _ _ h => h) (Or.inl ⟨by rfl, fun w hSw => ?_⟩) hS0 ?_
  · go_simp
  simp only [Act.put, List.setIfInBounds_toArray, List.set_cons_zero, List.set_cons_succ]
  refine wpAnyH_take (i := 11) (v := .agg #[.slice oa r.pend.objects.length oc, .slice ua r.pend.updates.length uc, .bool r.pend.force]) rfl (by kernel_rfl) (by kernel_rfl) (by kernel_rfl) (fun _ _ _ h => h) (Or.inl ⟨by rfl, fun w hSw => ?_⟩) hS0 ?_
  · obtain ⟨_, _, _, _, y4, y5, y6⟩ := hSw; go_simp
  simp only [Act.put, List.setIfInBounds_toArray, List.set_cons_zero, List.set_cons_succ]
  refine wpAnyH_all (rs := [2]) (by kernel_rfl) (by simp) (fun j hj => ?_)
  obtain rfl : j = 2 := by simpa using hj
  refine Or.inl ?_
  go_wp2_with fail
  refine (HA.out _ hC0).mono ?_
  rintro e x1 ⟨vA, rfl, hvA, hb2⟩
  have hC1 := hQn _ _ hC0 hb2
  have hs0 := HN.out _ hC0
  obtain ⟨a1, c1, rfl⟩ := hvA.gath.shape
  have HvA := Lib.hid ((hvA.store h56).weaken (S' := fun b => w.heap.size + 2 ≤ b) (fun b hb => by omega))
  clear hvA
  clear hb2
  have hS1 := HS _ hC1
  go_simp
  refine wpAnyH_all (rs := [5]) (by kernel_rfl) (by simp) (fun j hj => ?_)
  obtain rfl : j = 5 := by simpa using hj
  refine Or.inl ?_
  go_wp2_with fail
  refine (HU.out _ hC1).mono ?_
  rintro e x2 ⟨vU, rfl, hvU, hb5⟩
  have hC2 := hQn _ _ hC1 hb5
  have hs1 := HN.out _ hC1
  obtain ⟨a2, c2, rfl⟩ := hvU.shape
  have HvU := Lib.hid ((hvU.refs h24).weaken (S' := fun b => w.heap.size + 2 ≤ b) (fun b hb => by omega))
  clear hvU
  replace HvA := Lib.hid (HvA.out.below hb5)
  clear hb5
  have hS2 := HS _ hC2
  go_simp
  refine wpAnyH_all (rs := [12]) (by kernel_rfl) (by simp) (fun j hj => ?_)
  obtain rfl : j = 12 := by simpa using hj
  refine Or.inl ?_
  go_wp2_with fail
  refine (HP.out _ hC2).mono ?_
  rintro e x3 ⟨vO, vM, rfl, hvO, hvM, hb12⟩
  have hC3 := hQn _ _ hC2 hb12
  have hs2 := HN.out _ hC2
  obtain ⟨a3, c3, rfl⟩ := hvO.vshape
  obtain ⟨⟨a4, c4⟩, rfl⟩ := hvM.shape
  have HvO := Lib.hid (hvO.weaken (S' := fun b => w.heap.size + 2 ≤ b) (fun b hb => by omega))
  have HvM := Lib.hid (hvM.weaken (S' := fun b => w.heap.size + 2 ≤ b) (fun b hb => by omega))
  have HvP := Lib.hid (show PshAt (fun b => w.heap.size + 2 ≤ b) _ r.pend _ _ from ⟨HvO.out, HvM.out⟩)
  clear hvO hvM HvO HvM
  simp only [pshV]
  replace HvA := Lib.hid (HvA.out.below hb12)
  replace HvU := Lib.hid (HvU.out.below hb12)
  clear hb12
  have hS3 := HS _ hC3
  go_simp
  refine wpAnyH_all (rs := [13]) (by kernel_rfl) (by simp) (fun j hj => ?_)
  obtain rfl : j = 13 := by simpa using hj
  refine Or.inl ?_
  go_simp
  refine wpAnyH_all (rs := [14]) (by kernel_rfl) (by simp) (fun j hj => ?_)
  obtain rfl : j = 14 := by simpa using hj
  refine Or.inl ?_
  have hblk := HZ.out _ hC3
  have g0 := block_cell (j := 0) hblk rfl
  have g1 := block_cell (j := 1) hblk rfl
  have g2 := block_cell (j := 2) hblk rfl
  have g3 := block_cell (j := 3) hblk rfl
  have g4 := block_cell (j := 4) hblk rfl
  have g5 := block_cell (j := 5) hblk rfl
  have g6 := block_cell (j := 6) hblk rfl
  have f0 := block_free (j := 0) hblk
  have f1 := block_free (j := 1) hblk
  have f2 := block_free (j := 2) hblk
  have f3 := block_free (j := 3) hblk
  have f4 := block_free (j := 4) hblk
  have f5 := block_free (j := 5) hblk
  have f6 := block_free (j := 6) hblk
  have hb7 := set7_is (v0 := .slice a1 r.store.length c1) (v1 := .slice a2 r.refs.length c2) (v2 := .int .i64 r.gen) (v3 := .int .i64 r.phase) (v4 := .slice a3 r.pend.objects.length c3) (v5 := .slice a4 r.pend.updates.length c4) (v6 := .bool r.pend.force) hblk
  have hu7 := set7_upd (w.heap.size + 1) (.slice a1 r.store.length c1) (.slice a2 r.refs.length c2) (.int .i64 r.gen) (.int .i64 r.phase) (.slice a3 r.pend.objects.length c3) (.slice a4 r.pend.updates.length c4) (.bool r.pend.force) x3
  have Hb7 := Lib.hid hb7
  have Hu7 := Lib.hid hu7
  clear hb7 hu7
  go_wp2_with fail
  refine ⟨by kernel_rfl, ?_⟩
  change Exit.then _ _ _ _ (set7 (w.heap.size + 1) (.slice a1 r.store.length c1) (.slice a2 r.refs.length c2) (.int .i64 r.gen) (.int .i64 r.phase) (.slice a3 r.pend.objects.length c3) (.slice a4 r.pend.updates.length c4) (.bool r.pend.force) x3)
  have hb7 := Hb7.out
  have hu7 := Hu7.out
  clear Hb7 Hu7
  generalize set7 (w.heap.size + 1) (.slice a1 r.store.length c1) (.slice a2 r.refs.length c2) (.int .i64 r.gen) (.int .i64 r.phase) (.slice a3 r.pend.objects.length c3) (.slice a4 r.pend.updates.length c4) (.bool r.pend.force) x3 = w7 at *
  have k0 := block_cell (j := 0) hb7 rfl
  have k1 := block_cell (j := 1) hb7 rfl
  have k2 := block_cell (j := 2) hb7 rfl
  have k3 := block_cell (j := 3) hb7 rfl
  have k4 := block_cell (j := 4) hb7 rfl
  have k5 := block_cell (j := 5) hb7 rfl
  have k6 := block_cell (j := 6) hb7 rfl
  clear g0 g1 g2 g3 g4 g5 g6 f0 f1 f2 f3 f4 f5 f6 hblk hb7
  have hsz := (hQb _ hC3).size
  have hB7 : Below w.heap.size w w7 := (hQb _ hC3).trans (hu7.below (B := w.heap.size) hsz (fun b hb => by omega))
  go_wp2_with fail
  refine bodyPost_ret (v := .agg #[.slice a1 r.store.length c1, .slice a2 r.refs.length c2, .int .i64 r.gen, .int .i64 r.phase, .slice a3 r.pend.objects.length c3, .slice a4 r.pend.updates.length c4, .bool r.pend.force]) (by simp [results, Tryz.results59, go_sem]; simp [k0, k1, k2, k3, k4, k5, k6] <;> rfl) rfl ?_
  exact ⟨_, _, _, _, rfl, ⟨(HvA.out.upd' hu7 (fun b hb e => by omega)).weaken fun b hb => by omega, (HvU.out.upd hu7 (fun b hb e => by omega)).weaken fun b hb => by omega, (HvP.out.1.upd' hu7 (fun b hb e => by omega)).weaken fun b hb => by omega, (HvP.out.2.upd hu7 (fun b hb e => by omega)).weaken fun b hb => by omega, H.out.gen, H.out.phase⟩, hB7⟩
end Go.Proofs.YtjkbaallfkjmhaaGreat
