
/- Walks: the law's own replica and push; its first test of pushes. -/
import Derived.Test.YtdhoodloklgokaaGreatDoorNeedA
import Derived.Test.YtdhoodloklgokaaGreatDoorRepV
namespace Go.Proofs.YtdhoodloklgokaaGreatDoor
open Go.RowKit
set_option linter.unusedVariables false
set_option linter.unusedSimpArgs false

theorem come_end {w w1 : World} {t tt tu tp : TypeId}
    (hb1 : Below ((w.alloc (.cells #[.slice none 0 0, .slice none 0 0, .bool false] tp)).alloc (.cells #[.int .i64 2, .int .i64 5] t)).heap.size ((w.alloc (.cells #[.slice none 0 0, .slice none 0 0, .bool false] tp)).alloc (.cells #[.int .i64 2, .int .i64 5] t)) w1) :
    ∃ w2, w2 = (w1.alloc (.cells #[.int .i64 6, .int .i64 3, .slice (some ⟨w.heap.size + 1, 0, none⟩) 2 2, .string tee] tt)).alloc (.cells #[.string ⟨#[109, 97, 105, 110]⟩, .int .i64 3, .int .i64 6] tu) ∧
    StoreV (fun b => w.heap.size < b) w2 (.slice (some ⟨w1.heap.size, 0, none⟩) 1 1) comeP.objects ∧ MvsV (fun b => w.heap.size < b) w2 (.slice (some ⟨w1.heap.size + 1, 0, none⟩) 1 1) comeP.updates ∧
    Below w.heap.size w w2 ∧ w2.heap[w.heap.size]? = some (.cells #[.slice none 0 0, .slice none 0 0, .bool false] tp (0, 0)) := by
  refine ⟨_, rfl, ?_, ?_, ?_, ?_⟩
  all_goals have hs := hb1.size
  all_goals simp only [World.size_alloc] at hs
  · have i1 := (ints_new (w.alloc (.cells #[.slice none 0 0, .slice none 0 0, .bool false] tp)) [2, 5] t (w.heap.size + 1) (by simp) (by simp) (by intro x hx; simp only [List.mem_cons, List.not_mem_nil, or_false] at hx; rcases hx with rfl | rfl <;> exact small64 _ (by omega))).below hb1
    have h := store_new (S := fun b => w.heap.size < b ∧ b < w1.heap.size) w1 comeP.objects (fun _ => .slice (some ⟨w.heap.size + 1, 0, none⟩) 2 2) tt w1.heap.size rfl (by decide) (fun i hi => by
      match i, hi with
      | 0, _ => exact ⟨i1.weaken fun b hb => by omega, small64 _ (by decide), small64 _ (by decide), by decide⟩)
    exact (h.weaken fun b hb => by rcases hb with rfl | hb; omega; exact hb.1).below ((Below.refl _ _).alloc (Nat.le_refl _) _)
  · have h := mvs_new (w1.alloc (.cells #[.int .i64 6, .int .i64 3, .slice (some ⟨w.heap.size + 1, 0, none⟩) 2 2, .string tee] tt)) comeP.updates tu (w1.heap.size + 1) (by simp) (by decide) (fun u hu => by
      simp only [comeP, List.mem_cons, List.not_mem_nil, or_false] at hu
      subst hu
      exact ⟨small64 _ (by decide), small64 _ (by decide), by decide⟩)
    exact h.weaken fun b hb => by omega
  · have c1 : Below w.heap.size w w1 := by
      have a1 := (Below.refl w.heap.size w).alloc (Nat.le_refl _) (.cells #[.slice none 0 0, .slice none 0 0, .bool false] tp)
      have a2 := a1.alloc (by simp) (.cells #[.int .i64 2, .int .i64 5] t)
      exact below_next a2 hb1
    exact (c1.alloc c1.size _).alloc (by simp; omega) _
  · have e1 : w1.heap[w.heap.size]? = some (.cells #[.slice none 0 0, .slice none 0 0, .bool false] tp (0, 0)) :=
      (hb1.block _ (by simp; omega)).trans ((((Below.refl (w.heap.size + 1) (w.alloc (.cells #[.slice none 0 0, .slice none 0 0, .bool false] tp)))).alloc (by simp) _).block _ (by omega) |>.trans (heap_alloc_new w _))
    exact (((Below.refl w1.heap.size w1).alloc (Nat.le_refl _) _).alloc (by simp) _).block _ (by omega) |>.trans e1

set_option maxRecDepth 100000 in
set_option maxHeartbeats 4000000 in
theorem come_any (w : World) : Calls Tryz.prog 81 #[] w fun e w' => RetPsh w w' e comeP := by
  go_enter Tryz.func81, Tryz.ntmps81
  go_wp2_with fail
  refine (obj_any _ _ _ _ _ _).mono ?_; rintro e w1 ⟨rfl, hb1⟩
  obtain ⟨w2, he, ho, hu, hb, hblk⟩ := come_end (tt := 46) (tu := 93) hb1
  have g0 := block_cell (j := 0) hblk rfl
  have g1 := block_cell (j := 1) hblk rfl
  have g2 := block_cell (j := 2) hblk rfl
  have f0 := block_free (j := 0) hblk
  have f1 := block_free (j := 1) hblk
  have f2 := block_free (j := 2) hblk
  have HE := Lib.hid (And.intro ho (And.intro hu hb))
  clear hb1 ho hu hb
  simp only [he] at g0 g1 g2 f0 f1 f2
  go_wp2_with fail
  rw [← he]
  change bodyPost _ _ _ _ _ (set3 w.heap.size (.slice (some ⟨w1.heap.size, 0, none⟩) 1 1) (.slice (some ⟨w1.heap.size + 1, 0, none⟩) 1 1) (.bool false) w2)
  have hb3 := set3_is (v0 := .slice (some ⟨w1.heap.size, 0, none⟩) 1 1) (v1 := .slice (some ⟨w1.heap.size + 1, 0, none⟩) 1 1) (v2 := .bool false) hblk
  have hu3 := set3_upd w.heap.size (.slice (some ⟨w1.heap.size, 0, none⟩) 1 1) (.slice (some ⟨w1.heap.size + 1, 0, none⟩) 1 1) (.bool false) w2
  generalize set3 w.heap.size (.slice (some ⟨w1.heap.size, 0, none⟩) 1 1) (.slice (some ⟨w1.heap.size + 1, 0, none⟩) 1 1) (.bool false) w2 = w3 at *
  have k0 := block_cell (j := 0) hb3 rfl
  have k1 := block_cell (j := 1) hb3 rfl
  have k2 := block_cell (j := 2) hb3 rfl
  refine bodyPost_ret (v := pshV comeP (.slice (some ⟨w1.heap.size, 0, none⟩) 1 1) (.slice (some ⟨w1.heap.size + 1, 0, none⟩) 1 1)) (by simp [results, Tryz.results81, go_sem]; simp [k0, k1, k2]; rfl) rfl ⟨_, _, rfl, ?_, ?_, ?_⟩
  · exact (HE.out.1.upd' hu3 (fun b hb e => by omega)).weaken fun b hb => by omega
  · exact (HE.out.2.1.upd hu3 (fun b hb e => by omega)).weaken fun b hb => by omega
  · exact HE.out.2.2.trans (hu3.below (B := w.heap.size) HE.out.2.2.size (fun b hb => by omega))

theorem StoreV.shape3 {S : Nat → Prop} {w : World} {v : Value} {l : List Obj} (h : StoreV S w v l) : ∃ a n c, v = .slice a n c := let ⟨a, c, e⟩ := h.vshape; ⟨a, _, c, e⟩
theorem MvsV.shape3 {S : Nat → Prop} {w : World} {v : Value} {l : List Mv} (h : MvsV S w v l) : ∃ a n c, v = .slice a n c := let ⟨p, e⟩ := h.shape; ⟨p.1, _, p.2, e⟩
theorem begun_p1 : checkPsh comeP = 0 := by decide +kernel
theorem begun_p2 : tryE hostR comeP = 0 := by decide +kernel
theorem begun_p3 : (tryL hostR comeP).length = 6 := by decide +kernel
theorem begun_p4 : idOf (tryM hostR comeP) ⟨#[109, 97, 105, 110]⟩ = 6 := by decide +kernel
theorem begun_p5 : needsE (shelfL.take 3) comeP = 0 := by decide +kernel
theorem begun_p6 : needsL (shelfL.take 3) comeP = [5] := by
  unfold needsL
  rw [if_pos begun_p5, ← need_want (by decide +kernel) begun_p1]
  decide +kernel

def fPsh (p : Psh) : Fact := ⟨fun v x => ∃ ov uv, v = pshV p ov uv ∧ StoreV (fun _ => True) x ov p.objects ∧ MvsV (fun _ => True) x uv p.updates,
  fun _ _ _ ⟨ov, uv, e, h1, h2⟩ hb => ⟨ov, uv, e, h1.below hb, h2.below hb⟩⟩

set_option maxRecDepth 100000 in
set_option maxHeartbeats 4000000 in
theorem pushBegun_any (w : World) : Calls Tryz.prog 19 #[] w fun e w' => e = .returned (.bool true) ∧ Below w.heap.size w w' := by
  obtain ⟨R, hR, hR1, _⟩ := cls_plain w
  have hRb := hR.below
  have hRn := hR.next
  have hRa := hR.alloc
  go_enter Tryz.func19, Tryz.ntmps19
  go_wp2_with fail
  refine (host_any _).mono ?_
  rintro e w1 ⟨sv, rv, ov, uv, rfl, hr, hb1⟩
  have hR2 := hRn _ _ hR1 hb1
  have Hr := Lib.hid hr
  clear hr hb1 hR1
  go_wp2_with fail
  refine (come_any _).mono ?_
  rintro e w2 ⟨ov2, uv2, rfl, ho2, hu2, hb2⟩
  have hR3 := hRn _ _ hR2 hb2
  have hT := pushTry_any hostR comeP _ _ _ _ _ _ _ _ _ _ w2 (Hr.out.store.below hb2) (Hr.out.refs.below hb2) ho2 hu2 ⟨StoreV.shape3 Hr.out.objs, MvsV.shape3 Hr.out.upds⟩
  rw [if_pos begun_p1, if_pos begun_p1, if_pos begun_p1, begun_p2] at hT
  have HT := Lib.hid hT
  clear hT ho2 hu2 hb2 hR2 Hr
  go_wp2_with fail
  refine HT.out.mono ?_
  rintro e w3 ⟨v3, u3, rfl, hv3, hu3, hb3⟩
  obtain ⟨a3, c3, rfl⟩ := hv3.vshape
  obtain ⟨⟨p3, d3⟩, rfl⟩ := hu3.shape
  have hR4 := hRn _ _ hR3 hb3
  have HM := Lib.hid begun_p4
  have HU := Lib.hid hu3
  rw [begun_p3]
  generalize (tryM hostR comeP) = M at *
  clear hv3 hu3 hb3 hR3 HT
  go_wp2_with fail
  obtain ⟨C, hC, hC1, _⟩ := cls_plain w3
  have hCb := hC.below
  refine wp_flow (n := 46) (by kernel_rfl) (by kernel_rfl) rfl (facts [fStore shelfL, fStore (shelfL.take 3), fPsh comeP, fTup2 (fInts [5]) (Fact.is (.int .i64 0)), fTup2 (fInts [5]) (Fact.is (.int .i64 0)), fInts [5], Fact.is (.int .i64 0), fInts [5], Fact.is (.int .i64 0)]) hC hC1 [(0, some 14), (1, some 15), (2, some 16), (3, some 17), (4, some 13), (5, some 18), (6, some 19), (7, some 4), (8, some 5)] (by kernel_rfl) ?_ ?_
  · -- 0 shelf
    refine Steps.cons [] (by kernel_rfl) (fun vals x hx hh K hK => ?_) ?_
    · rw [if_pos (by rfl)]
      simp only [puts]
      go_wp2_with fail
      refine (shelf_any _).mono ?_
      rintro e x' ⟨v, rfl, hv, hb⟩
      obtain ⟨a, c, rfl⟩ := hv.vshape
      have Hv := Lib.hid (hv.weaken (S' := fun _ => True) (fun _ _ => trivial))
      clear hv
      go_wp2_with fail
      exact hK.out _ _ rfl hb Hv.out
    -- 1 slice
    refine Steps.cons [(0, some 14)] (by kernel_rfl) (fun vals x hx hh K hK => ?_) ?_
    · obtain ⟨h0, _⟩ := hh
      replace h0 : StoreV (fun _ => True) x (vals 0) shelfL := h0
      obtain ⟨a, c, hc, e0⟩ : ∃ a c, 5 ≤ c ∧ vals 0 = .slice a 5 c := let ⟨_, ⟨a, cap, hv, h1, _⟩, _⟩ := h0; ⟨a, cap, h1, hv⟩
      rw [e0] at h0
      have HT := Lib.hid (h0.take (i := 3) (by decide))
      have hc2 : (3 : Int) ≤ (c : Int) := by omega
      have hc3 : 3 ≤ c := by omega
      clear h0
      rw [if_pos (by rfl)]
      simp only [puts, Act.put, List.setIfInBounds_toArray, List.set_cons_zero, List.set_cons_succ, e0]
      clear e0
      go_wp2_with fail
      exact hK.out _ _ rfl (Below.refl _ _) HT.out
    -- 2 come
    refine Steps.cons [] (by kernel_rfl) (fun vals x hx hh K hK => ?_) ?_
    · rw [if_pos (by rfl)]
      simp only [puts]
      go_wp2_with fail
      refine (come_any _).mono ?_
      rintro e x' ⟨ov, uv, rfl, ho, hu, hb⟩
      have Hv := Lib.hid (And.intro (ho.weaken (S' := fun _ => True) (fun _ _ => trivial)) (hu.weaken (S' := fun _ => True) (fun _ _ => trivial)))
      clear ho hu
      go_wp2_with fail
      exact hK.out _ _ rfl hb ⟨ov, uv, rfl, Hv.out.1, Hv.out.2⟩
    -- 3 Needs
    refine Steps.cons [(1, some 15), (2, some 16)] (by kernel_rfl) (fun vals x hx hh K hK => ?_) ?_
    · obtain ⟨h1, h2, _⟩ := hh
      replace h1 : StoreV (fun _ => True) x (vals 1) (shelfL.take 3) := h1
      obtain ⟨ov, uv, e2, ho, hu⟩ := h2
      replace e2 : vals 2 = _ := e2
      have HN := needs_any (shelfL.take 3) comeP _ _ _ _ _ _ x h1 ho hu
      rw [begun_p5, begun_p6] at HN
      generalize e1 : vals 1 = v1 at *
      have HAd := Lib.hid HN
      clear h1 ho hu HN
      rw [if_pos (by rfl)]
      simp only [puts, Act.put, List.setIfInBounds_toArray, List.set_cons_zero, List.set_cons_succ, e1, e2]
      clear e1 e2
      go_wp2_with fail
      refine HAd.out.mono ?_
      rintro e x' ⟨v, rfl, hv, hb⟩
      have HT := Lib.hid hv
      clear hv
      go_wp2_with fail
      exact hK.out _ _ rfl hb ⟨_, _, rfl, HT.out, rfl⟩
    -- 4 move
    refine Steps.cons [(3, some 17)] (by kernel_rfl) (fun vals x hx hh K hK => ?_) ?_
    · obtain ⟨h0, _⟩ := hh
      obtain ⟨a, b, e0, h1, h2⟩ := h0
      replace e0 : vals 3 = _ := e0
      have HT := Lib.hid (And.intro h1 h2)
      clear h1 h2
      rw [if_pos (by rfl)]
      simp only [puts, Act.put, List.setIfInBounds_toArray, List.set_cons_zero, List.set_cons_succ, e0]
      clear e0
      go_wp2_with fail
      exact hK.out _ _ rfl (Below.refl _ _) ⟨a, b, rfl, HT.out.1, HT.out.2⟩
    -- 5 extract
    refine Steps.cons [(4, some 13)] (by kernel_rfl) (fun vals x hx hh K hK => ?_) ?_
    · obtain ⟨h0, _⟩ := hh
      obtain ⟨a, b, e0, h1, h2⟩ := h0
      replace e0 : vals 4 = _ := e0
      have HT := Lib.hid (And.intro h1 h2)
      clear h1 h2
      rw [if_pos (by rfl)]
      simp only [puts, Act.put, List.setIfInBounds_toArray, List.set_cons_zero, List.set_cons_succ, e0]
      clear e0
      go_wp2_with fail
      exact hK.out _ _ rfl (Below.refl _ _) HT.out.1
    -- 6 extract
    refine Steps.cons [(4, some 13)] (by kernel_rfl) (fun vals x hx hh K hK => ?_) ?_
    · obtain ⟨h0, _⟩ := hh
      obtain ⟨a, b, e0, h1, h2⟩ := h0
      replace e0 : vals 4 = _ := e0
      have HT := Lib.hid (And.intro h1 h2)
      clear h1 h2
      rw [if_pos (by rfl)]
      simp only [puts, Act.put, List.setIfInBounds_toArray, List.set_cons_zero, List.set_cons_succ, e0]
      clear e0
      go_wp2_with fail
      exact hK.out _ _ rfl (Below.refl _ _) HT.out.2
    -- 7 assign
    refine Steps.cons [(5, some 18)] (by kernel_rfl) (fun vals x hx hh K hK => ?_) ?_
    · obtain ⟨h0, _⟩ := hh
      replace h0 : IntsV (fun _ => True) x (vals 5) [5] := h0
      generalize e0 : vals 5 = v0 at *
      have HT := Lib.hid h0
      clear h0
      rw [if_pos (by rfl)]
      simp only [puts, Act.put, List.setIfInBounds_toArray, List.set_cons_zero, List.set_cons_succ, e0]
      clear e0
      go_wp2_with fail
      exact hK.out _ _ rfl (Below.refl _ _) HT.out
    -- 8 assign
    refine Steps.cons [(6, some 19)] (by kernel_rfl) (fun vals x hx hh K hK => ?_) ?_
    · obtain ⟨h0, _⟩ := hh
      replace h0 : vals 6 = .int .i64 0 := h0
      rw [if_pos (by rfl)]
      simp only [puts, Act.put, List.setIfInBounds_toArray, List.set_cons_zero, List.set_cons_succ, h0]
      clear h0
      go_wp2_with fail
      exact hK.out _ _ rfl (Below.refl _ _) rfl
    exact Steps.nil
  · intro vals x hxC hh
    have hb4 := hCb _ hxC
    have hR5 := hRn _ _ hR4 hb4
    have HU4 := Lib.hid (HU.out.below hb4)
    clear hb4 hxC HU hR4
    obtain ⟨h0, h1, h2, h3, h4, h5, h6, h7, h8, _⟩ := hh
    replace h7 : IntsV (fun _ => True) x (vals 7) [5] := h7
    replace h8 : vals 8 = .int .i64 0 := h8
    obtain ⟨⟨a, c⟩, e7⟩ := h7.shape
    simp only [puts, Act.put, List.setIfInBounds_toArray, List.set_cons_zero, List.set_cons_succ, h8, e7]
    rw [e7] at h7
    have HL := Lib.hid h7
    clear h0 h1 h2 h3 h4 h5 h6 h7 h8 e7
    go_wp2_with fail
    refine (come_any _).mono ?_
    rintro e x2 ⟨ov2, uv2, rfl, ho2, hu2, hb2⟩
    have hR6 := hRn _ _ hR5 hb2
    have HL2 := Lib.hid (HL.out.below hb2)
    have HU5 := Lib.hid (HU4.out.below hb2)
    have hP := pushCheck_any comeP _ _ _ _ x2 ho2 hu2
    rw [begun_p1] at hP
    have HP := Lib.hid hP
    clear hP ho2 hu2 hb2 hR5 HL HU4
    go_wp2_with fail
    refine HP.out.mono ?_
    rintro e x3 ⟨rfl, hb3⟩
    have hR7 := hRn _ _ hR6 hb3
    have HL3 := Lib.hid (HL2.out.below hb3)
    have hI := idOf_any M _ _ ⟨#[109, 97, 105, 110]⟩ x3 (HU5.out.below hb3)
    rw [HM.out] at hI
    have HI := Lib.hid hI
    clear hI hb3 hR6 HL2 HU5 HP
    go_wp2_with fail
    refine HI.out.mono ?_
    rintro e x4 ⟨rfl, rfl⟩
    clear HI
    go_wp2_with fail
    have hI := ints_lit (w := x3) (xs := [5]) (t := 3) (by decide) (by decide)
    have hb5 := (Below.refl x3.heap.size x3).alloc (Nat.le_refl _) (.cells #[.int .i64 5] 3)
    have hR8 := hRn _ _ hR7 hb5
    have HS := Lib.hid (sameInts_any [5] [5] _ _ _ _ _ (HL3.out.below hb5) hI)
    clear hI hb5 HL3 hR7
    refine HS.out.mono ?_
    rintro e x6 ⟨rfl, hb6⟩
    have hR9 := hRn _ _ hR8 hb6
    rw [show sameInts [5] [5] = true from rfl]
    clear hb6 hR8 HS
    go_wp2_with fail
    go_ret
    exact ⟨rfl, hRb _ hR9⟩
end Go.Proofs.YtdhoodloklgokaaGreatDoor
