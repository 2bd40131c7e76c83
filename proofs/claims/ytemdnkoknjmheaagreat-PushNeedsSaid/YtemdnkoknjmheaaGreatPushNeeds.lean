
/- Walks: the law PushNeeds. -/
import Derived.Test.YtemdnkoknjmheaaGreatPushTells
import Derived.Test.YtemdnkoknjmheaaGreatNeedL
import Derived.Test.YtemdnkoknjmheaaGreatFlow2
namespace Go.Proofs.YtemdnkoknjmheaaGreat
open Go.RowKit
set_option linter.unusedVariables false
set_option linter.unusedSimpArgs false

/-- a new block of an object, nothing in it -/
def fNewO : FactI := ⟨fun lo hi v x => v = .pointer (some ⟨lo, 0, none⟩) ∧ x.heap[lo]? = some (.cells #[.int .i64 0, .int .i64 0, .slice none 0 0, .string ⟨#[]⟩] 49 (0, 0)),
  fun lo hi v x y h hb => ⟨h.1, (hb.block _ (lt_of_block h.2)).trans h.2⟩⟩

def set4q (b : Nat) (v0 v1 v2 v3 : Value) (w : World) : World := (((w.setCell ⟨b, 0, none⟩ v0).setCell ⟨b, 1, none⟩ v1).setCell ⟨b, 2, none⟩ v2).setCell ⟨b, 3, none⟩ v3
theorem set4q_upd (b : Nat) (v0 v1 v2 v3 : Value) (w : World) : Upd (fun x => x = b) w (set4q b v0 v1 v2 v3 w) :=
  Upd.setCell (T := fun x => x = b) (Upd.setCell (T := fun x => x = b) (Upd.setCell (T := fun x => x = b) (Upd.setCell (T := fun x => x = b) (Upd.refl (fun x => x = b) w) (fun _ => rfl) v0) (fun _ => rfl) v1) (fun _ => rfl) v2) (fun _ => rfl) v3

set_option maxRecDepth 100000 in
set_option maxHeartbeats 4000000 in
theorem pushNeeds_any (r : Rep) (p : Psh) (sv rv ov2 uv2 ov uv : Value) (S S1 : Nat → Prop) (w : World) (h : RepIs S w r sv rv ov2 uv2) (hp : StoreV S1 w ov p.objects ∧ MvsV S1 w uv p.updates) :
    Calls Tryz.prog 5 #[repV r sv rv ov2 uv2, pshV p ov uv] w fun e w' => e = .returned (.bool true) ∧ Below w.heap.size w w' := by
  obtain ⟨ho, hu⟩ := hp
  simp only [repV, pshV]
  have h2 : (∃ a n c, ov2 = .slice a n c) ∧ ∃ a n c, uv2 = .slice a n c := ⟨StoreV.shape3 h.objs, MvsV.shape3 h.upds⟩
  have Ht := Lib.hid (fun x (hx : Below w.heap.size w x) => show Calls Tryz.prog 6 _ x fun e w' => RetTry x w' e (tryWL r p) (tryWM r p) (tryWE r p) from pushTry_any r p _ _ _ _ _ _ _ _ _ _ x (h.store.below hx) (h.refs.below hx) (ho.below hx) (hu.below hx) h2)
  have Hn := Lib.hid (fun x (hx : Below w.heap.size w x) => needs_any r.store p _ _ _ _ _ _ x (h.store.below hx) (ho.below hx) (hu.below hx))
  have Hn2 := Lib.hid (fun L x v S9 (hx : Below w.heap.size w x) (hv : StoreV S9 x v L) => needs_any L p _ _ _ _ _ _ x hv (ho.below hx) (hu.below hx))
  have Hf := Lib.hid (fun id x (hx : Below w.heap.size w x) => storeFind_any r.store id _ _ x (h.store.below hx))
  have Hat := Lib.hid (fun id x (hx : Below w.heap.size w x) => objectAt_any p.objects _ _ id x (ho.below hx))
  have HbadE := Lib.hid (needsL_bad (l := r.store) (p := p))
  have Hnone := Lib.hid (fun i (hi : i < (needsL r.store p).length) => needs_none (l := r.store) (p := p) (x := nth (needsL r.store p) i) (at_mem hi))
  have Hup := Lib.hid (fun i hi => needs_up (l := r.store) (p := p) (i := i) hi)
  have Hbad := Lib.hid (fun he => (tryW_bad (r := r) (p := p) he).1)
  have Hok := Lib.hid (fun (he : tryWE r p = 0) => needs_done (tryW_ok he).1 (tryW_ok he).2)
  obtain ⟨sa, sc, rfl⟩ := h.store.vshape
  obtain ⟨⟨ra, rc⟩, rfl⟩ := h.refs.shape
  obtain ⟨oa, oc, rfl⟩ := ho.vshape
  obtain ⟨⟨ua, uc⟩, rfl⟩ := hu.shape
  obtain ⟨⟨oa2, on2, oc2, rfl⟩, ⟨ua2, un2, uc2, rfl⟩⟩ := h2
  obtain ⟨R, hR, hR1, hy, hz⟩ := cls_two w #[.slice sa r.store.length sc, .slice ra r.refs.length rc, .int .i64 r.gen, .int .i64 r.phase, .slice oa2 on2 oc2, .slice ua2 un2 uc2, .bool r.pend.force] #[.slice oa p.objects.length oc, .slice ua p.updates.length uc, .bool p.force] 28 26
  have HB := Lib.hid (fun x hx => (⟨hy 0 _ rfl x hx, hy 1 _ rfl x hx, hy 2 _ rfl x hx, hy 3 _ rfl x hx, hy 4 _ rfl x hx, hy 5 _ rfl x hx, hy 6 _ rfl x hx, hz 0 _ rfl x hx, hz 1 _ rfl x hx, hz 2 _ rfl x hx⟩ : _ ∧ _ ∧ _ ∧ _ ∧ _ ∧ _ ∧ _ ∧ _ ∧ _ ∧ _))
  have hRb := hR.below
  have hRn := hR.next
  clear hy hz h ho hu
  generalize hL : tryWL r p = TL at *
  generalize hM : tryWM r p = TM at *
  generalize hE : tryWE r p = TE at *
  clear hL hM hE
  generalize hNL : needsL r.store p = NL at *
  generalize hNE : needsE r.store p = NE at *
  clear hNL hNE
  go_enter Tryz.func5, Tryz.ntmps5
  obtain ⟨c0, c1, c2, c3, c4, c5, c6, d0, d1, d2⟩ := HB.out _ hR1
  go_wp2_with fail
  clear c0 c1 c2 c3 c4 c5 c6 d0 d1 d2
  refine (Hn.out _ (hRb _ hR1)).mono ?_
  rintro e w1 ⟨v1, rfl, hv1, hb1⟩
  obtain ⟨na, nn, nc, HN, rfl, hc1, hc2, hc8, hcell⟩ := hv1.open
  have hnn : nn ≤ 9223372036854775807 := by omega
  have hR2 := hRn _ _ hR1 hb1
  clear hv1 hR1 hb1
  go_wp2_with fail
  refine (pushBegun_any _).mono ?_
  rintro e w2 ⟨rfl, hb2⟩
  have hR3 := hRn _ _ hR2 hb2
  go_wp2_with fail
  refine (storeBegun_any _).mono ?_
  rintro e w3 ⟨rfl, hb3⟩
  have hb23 := hb2.trans (hb3.mono hb2.size)
  have hR4 := hRn _ _ hR3 hb3
  clear hb2 hb3 hR3 hR2
  by_cases hne : NE = 0
  case neg =>
    have e1 := HbadE.out hne
    have q1 : (NE != 0) = true := by simpa using hne
    rw [e1] at HN
    have hz : nn = 0 := HN.out
    subst hz
    clear HbadE Hnone Hup Hbad Hok hne
    go_wp2_with fail
    go_ret
    exact ⟨rfl, hRb _ hR4⟩
  case pos =>
    subst hne
    obtain ⟨C, hC, hC1, hCall⟩ := cls_plain w3
    have hCb := hC.below
    have hCn := hC.next
    have hCg := cls_grown hC
    have HCR := Lib.hid (fun x (hx : In C x) => hRn _ _ hR4 (hCb _ hx))
    have HI := Lib.hid (fun (hn : 0 < nn) => hcell hn)
    clear hR4 hcell HbadE
    go_wp2_with fail
    go_loopw [7] (fun s7 wr => ∃ i : Nat, i ≤ nn ∧ s7 = .int .i64 i ∧ In C wr) (fun s7 _ => nn - (intOf s7).toNat)
    case atStart => exact ⟨0, by omega, rfl, hC1⟩
    case round =>
      obtain ⟨i, hi, rfl, hCw⟩ := hrel
      by_cases hlt : i < nn
      · obtain ⟨nb, noff, rfl, hnb, hce⟩ := HI.out (by omega)
        have x1 := fun x (hx : In C x) => hce i x hlt (hb23.trans ((hCb _ hx).mono hb23.size))
        have z0 := fun x (hx : In C x) => (HB.out _ (HCR.out _ hx)).1
        have hfe := Hnone.out i (by have := HN.out; omega)
        have HF := Lib.hid (fun x (hx : In C x) => (Hf.out (nth NL i) x (hRb _ (HCR.out _ hx))))
        rw [hfe.1] at HF
        have HatI := Lib.hid (fun x (hx : In C x) => (Hat.out (nth NL i) x (hRb _ (HCR.out _ hx))))
        have Hneg := Lib.hid hfe.2
        clear hfe
        generalize findO r.store (nth NL i) = fo at *
        generalize hai : atOf p.objects (nth NL i) = ai at *
        clear hai
        have Hprev := Lib.hid (fun (h0 : 0 < i) => (Hup.out (i - 1) (by have := HN.out; omega)))
        have Hpc := Lib.hid (fun (h0 : 0 < i) x (hx : In C x) => hce (i - 1) x (by omega) (hb23.trans ((hCb _ hx).mono hb23.size)))
        have hi1 : (0 : Int) ≤ (i : Int) := by omega
        have hi2 : (i : Int) < (nn : Int) := by omega
        have hce0 := x1
        clear hce
        obtain ⟨wo, rfl⟩ : ∃ wo : World, wo = wr := ⟨_, rfl⟩
        go_wp2_with fail
        refine wp_region_held (S := In C) (by kernel_rfl) ?_
        change wpAnyH _ _ _ _ _ _ _ _ (World.drew _)
        have hC0 := hC.drew _ hCw
        generalize wo.drew = x0 at hC0 ⊢
        refine wpAnyH_take (i := 0) (v := .pointer (some ⟨w.heap.size, 0, none⟩)) rfl (by kernel_rfl) (by kernel_rfl) (by kernel_rfl) (fun _ _ _ h => h) (Or.inl ⟨by rfl, fun w hSw => ?_⟩) hC0 ?_
        · go_simp
        simp only [Act.put, List.setIfInBounds_toArray, List.set_cons_zero, List.set_cons_succ]
        refine wpAnyH_take (i := 1) (v := .slice sa r.store.length sc) rfl (by kernel_rfl) (by kernel_rfl) (by kernel_rfl) (fun _ _ _ h => h) (Or.inl ⟨by rfl, fun w hSw => ?_⟩) hC0 ?_
        · have y0 := z0 _ hSw; go_simp
        simp only [Act.put, List.setIfInBounds_toArray, List.set_cons_zero, List.set_cons_succ]
        refine wpAnyH_take (i := 2) (v := .slice (some ⟨nb, noff, none⟩) nn nc) rfl (by kernel_rfl) (by kernel_rfl) (by kernel_rfl) (fun _ _ _ h => h) (Or.inl ⟨by rfl, fun w hSw => ?_⟩) hC0 ?_
        · go_simp
        simp only [Act.put, List.setIfInBounds_toArray, List.set_cons_zero, List.set_cons_succ]
        refine wpAnyH_take (i := 3) (v := .int .i64 (i : Int)) rfl (by kernel_rfl) (by kernel_rfl) (by kernel_rfl) (fun _ _ _ h => h) (Or.inl ⟨by rfl, fun w hSw => ?_⟩) hC0 ?_
        · go_simp
        simp only [Act.put, List.setIfInBounds_toArray, List.set_cons_zero, List.set_cons_succ]
        refine wpAnyH_take (i := 4) (v := .pointer (some ⟨nb, noff + i, none⟩)) rfl (by kernel_rfl) (by kernel_rfl) (by kernel_rfl) (fun _ _ _ h => h) (Or.inl ⟨by rfl, fun w hSw => ?_⟩) hC0 ?_
        · go_simp
        simp only [Act.put, List.setIfInBounds_toArray, List.set_cons_zero, List.set_cons_succ]
        refine wpAnyH_take (i := 5) (v := .int .i64 (nth NL i)) rfl (by kernel_rfl) (by kernel_rfl) (by kernel_rfl) (fun _ _ _ h => h) (Or.inl ⟨by rfl, fun w hSw => ?_⟩) hC0 ?_
        · have y1 := x1 _ hSw; go_simp
        simp only [Act.put, List.setIfInBounds_toArray, List.set_cons_zero, List.set_cons_succ]
        refine wpAnyH_all (rs := [6, 10]) (by kernel_rfl) (by simp) (fun j hj => ?_)
        rcases List.mem_cons.1 hj with rfl | hj
        · refine Or.inl ?_
          go_wp2_with fail
          refine (HF.out _ hC0).mono ?_
          rintro e x1' ⟨v, rfl, hv, hb⟩
          obtain ⟨⟨q, c⟩, rfl⟩ := hv.1.shape
          have hC2 := hCn _ _ hC0 hb
          go_simp
          refine wpAnyH_take (i := 7) (v := .tuple #[.agg #[.int .i64 fo.id, .int .i64 fo.kind, .slice q fo.links.length c, .string fo.text], .int .i64 5]) rfl (by kernel_rfl) (by kernel_rfl) (by kernel_rfl) (fun _ _ _ h => h) (Or.inl ⟨by rfl, fun w hSw => ?_⟩) hC2 ?_
          · go_simp
          simp only [Act.put, List.setIfInBounds_toArray, List.set_cons_zero, List.set_cons_succ]
          refine wpAnyH_take (i := 8) (v := .agg #[.int .i64 fo.id, .int .i64 fo.kind, .slice q fo.links.length c, .string fo.text]) rfl (by kernel_rfl) (by kernel_rfl) (by kernel_rfl) (fun _ _ _ h => h) (Or.inl ⟨by rfl, fun w hSw => ?_⟩) hC2 ?_
          · go_simp
          simp only [Act.put, List.setIfInBounds_toArray, List.set_cons_zero, List.set_cons_succ]
          refine wpAnyH_take (i := 9) (v := .int .i64 5) rfl (by kernel_rfl) (by kernel_rfl) (by kernel_rfl) (fun _ _ _ h => h) (Or.inl ⟨by rfl, fun w hSw => ?_⟩) hC2 ?_
          · go_simp
          simp only [Act.put, List.setIfInBounds_toArray, List.set_cons_zero, List.set_cons_succ]
          have hsz := (hCb _ hC2).size
          have hC3 := hC.alloc _ (.cells #[.int .i64 0, .int .i64 0, .slice none 0 0, .string ⟨#[]⟩] 49) hC2
          refine wpAnyH_all (rs := [10]) (by kernel_rfl) (by simp) (fun j hj => ?_)
          obtain rfl : j = 10 := by simpa using hj
          refine Or.inl ?_
          go_simp
          have hblk := heap_alloc_new x1' (.cells #[.int .i64 0, .int .i64 0, .slice none 0 0, .string ⟨#[]⟩] 49)
          have hbs : w3.heap.size ≤ x1'.heap.size := hsz
          have g0 := block_cell (j := 0) hblk rfl
          have g1 := block_cell (j := 1) hblk rfl
          have g2 := block_cell (j := 2) hblk rfl
          have g3 := block_cell (j := 3) hblk rfl
          have f0 := block_free (j := 0) hblk
          have f1 := block_free (j := 1) hblk
          have f2 := block_free (j := 2) hblk
          have f3 := block_free (j := 3) hblk
          have hC4 := hC.alloc _ (.cells #[.int .i64 fo.id, .int .i64 fo.kind, .slice q fo.links.length c, .string fo.text] 49) hC2
          refine wpAnyH_all (rs := [11]) (by kernel_rfl) (by simp) (fun j hj => ?_)
          obtain rfl : j = 11 := by simpa using hj
          refine Or.inl ?_
          go_wp2_with fail
          clear g0 g1 g2 g3 f0 f1 f2 f3 hblk hbs
          generalize x1'.alloc (.cells #[.int .i64 fo.id, .int .i64 fo.kind, .slice q fo.links.length c, .string fo.text] 49) = x5 at hC4 ⊢
          refine wpAnyH_all (rs := [12]) (by kernel_rfl) (by simp) (fun j hj => ?_)
          obtain rfl : j = 12 := by simpa using hj
          refine Or.inl ?_
          go_wp2_with fail
          refine wpAnyH_done (by kernel_rfl) ?_ _
          clear HF x1 z0
          have w0 := fun x (hx : In C x) => (HB.out _ (HCR.out _ hx)).2.2.2.2.2.2.2.1
          have HatB := Lib.hid (fun x (hx : In C x) => (HatI.out x hx).mono (R' := fun e w' => e = .returned (.int .i64 ai) ∧ Below x.heap.size x w') (fun e w' ⟨he, hw⟩ => ⟨he, hw ▸ Below.refl _ _⟩))
          have xi := fun x (hx : In C x) => hce0 x hx
          have hneg := Hneg.out
          have hd1 : decide (0 ≤ ai) = false := decide_eq_false (by omega)
          have hd2 : ¬ 0 ≤ ai := by omega
          rcases Nat.eq_zero_or_pos i with rfl | h0
          · simp only [Nat.add_zero] at xi
            go_wp2_with fail
            refine wp_region_quiet_below (by kernel_rfl) (by kernel_rfl) ?_
            repeat (first | go_big_quiet_skip | quiet_step (exact Calls.regrown_of (HatB.out _ (hCg _ _ _ hC4))))
            refine wpQuiet_nil ?_
            intro _ hw'
            obtain ⟨⟨dq, osq⟩, hw''⟩ := hw'
            subst hw''
            have hC6 := hCg _ dq osq hC4
            generalize Go.Sort.grow (redrawn _ dq) osq = x6 at *
            clear hC4 w0 xi HatB
            go_wp2_with fail
            go_roundw
            case rel => exact ⟨1, by omega, by go_num, hC6⟩
            case measure => simp [intOf]; omega
          · have hlt2 := Hprev.out h0
            have xp := Hpc.out h0
            obtain ⟨k, rfl⟩ : ∃ k, i = k + 1 := ⟨i - 1, by omega⟩
            simp only [Nat.add_sub_cancel] at hlt2 xp
            have hd3 : decide (nth NL (k + 1) ≤ nth NL k) = false := decide_eq_false (by omega)
            have hd4 : ¬ nth NL (k + 1) ≤ nth NL k := by omega
            have hk1 : (0 : Int) ≤ (k : Int) := by omega
            have hk2 : (k : Int) < (nn : Int) := by omega
            have hk3 : (0 : Int) ≤ (k : Int) + 1 := by omega
            have hk4 : (k : Int) + 1 < (nn : Int) := by omega
            have hk5 : (0 : Int) < (k : Int) + 1 := by omega
            have hk6 : decide ((0 : Int) < (k : Int) + 1) = true := decide_eq_true (by omega)
            have hkw := wrap_in (n := (k : Int)) (by omega)
            generalize nth NL (k + 1) = na1 at *
            generalize nth NL k = na0 at *
            go_wp2_with fail
            refine wp_region_quiet_below (by kernel_rfl) (by kernel_rfl) ?_
            repeat (first | go_big_quiet_skip | quiet_step (exact Calls.regrown_of (HatB.out _ (hCg _ _ _ hC4))))
            refine wpQuiet_nil ?_
            intro _ hw'
            obtain ⟨⟨dq, osq⟩, hw''⟩ := hw'
            subst hw''
            have hC6 := hCg _ dq osq hC4
            generalize Go.Sort.grow (redrawn _ dq) osq = x6 at *
            clear hC4 w0 xi HatB xp
            go_wp2_with fail
            go_roundw
            case rel => exact ⟨k + 1 + 1, by omega, by go_num, hC6⟩
            case measure => simp [intOf]; omega
        · obtain rfl : j = 10 := by simpa using hj
          refine Or.inl ?_
          have hsz := (hCb _ hC0).size
          have hC2 := hC.alloc _ (.cells #[.int .i64 0, .int .i64 0, .slice none 0 0, .string ⟨#[]⟩] 49) hC0
          have hblk0 := heap_alloc_new x0 (.cells #[.int .i64 0, .int .i64 0, .slice none 0 0, .string ⟨#[]⟩] 49)
          go_simp
          generalize hB0 : x0.heap.size = B0 at *
          generalize x0.alloc _ = x0a at *
          refine wpAnyH_all (rs := [6]) (by kernel_rfl) (by simp) (fun j hj => ?_)
          obtain rfl : j = 6 := by simpa using hj
          refine Or.inl ?_
          go_wp2_with fail
          refine (HF.out _ hC2).mono ?_
          rintro e x1' ⟨v, rfl, hv, hb⟩
          obtain ⟨⟨q, c⟩, rfl⟩ := hv.1.shape
          have hC3 := hCn _ _ hC2 hb
          have hblk := (hb.block _ (lt_of_block hblk0)).trans hblk0
          have hbs : w3.heap.size ≤ B0 := hsz
          go_simp
          refine wpAnyH_take (i := 7) (v := .tuple #[.agg #[.int .i64 fo.id, .int .i64 fo.kind, .slice q fo.links.length c, .string fo.text], .int .i64 5]) rfl (by kernel_rfl) (by kernel_rfl) (by kernel_rfl) (fun _ _ _ h => h) (Or.inl ⟨by rfl, fun w hSw => ?_⟩) hC3 ?_
          · go_simp
          simp only [Act.put, List.setIfInBounds_toArray, List.set_cons_zero, List.set_cons_succ]
          refine wpAnyH_take (i := 8) (v := .agg #[.int .i64 fo.id, .int .i64 fo.kind, .slice q fo.links.length c, .string fo.text]) rfl (by kernel_rfl) (by kernel_rfl) (by kernel_rfl) (fun _ _ _ h => h) (Or.inl ⟨by rfl, fun w hSw => ?_⟩) hC3 ?_
          · go_simp
          simp only [Act.put, List.setIfInBounds_toArray, List.set_cons_zero, List.set_cons_succ]
          refine wpAnyH_take (i := 9) (v := .int .i64 5) rfl (by kernel_rfl) (by kernel_rfl) (by kernel_rfl) (fun _ _ _ h => h) (Or.inl ⟨by rfl, fun w hSw => ?_⟩) hC3 ?_
          · go_simp
          simp only [Act.put, List.setIfInBounds_toArray, List.set_cons_zero, List.set_cons_succ]
          have g0 := block_cell (j := 0) hblk rfl
          have g1 := block_cell (j := 1) hblk rfl
          have g2 := block_cell (j := 2) hblk rfl
          have g3 := block_cell (j := 3) hblk rfl
          have f0 := block_free (j := 0) hblk
          have f1 := block_free (j := 1) hblk
          have f2 := block_free (j := 2) hblk
          have f3 := block_free (j := 3) hblk
          have hC4 : In C (set4q (B0) (.int .i64 fo.id) (.int .i64 fo.kind) (.slice q fo.links.length c) (.string fo.text) x1') := hCall _ ((hCb _ hC3).trans ((set4q_upd (B0) (.int .i64 fo.id) (.int .i64 fo.kind) (.slice q fo.links.length c) (.string fo.text) x1').below (B := w3.heap.size) (hCb _ hC3).size (fun b hb => by subst hb; exact hbs)))
          refine wpAnyH_all (rs := [11]) (by kernel_rfl) (by simp) (fun j hj => ?_)
          obtain rfl : j = 11 := by simpa using hj
          refine Or.inl ?_
          go_wp2_with fail
          refine ⟨hC4, ?_⟩
          change wpAnyH _ _ _ _ _ _ _ _ (set4q (B0) (.int .i64 fo.id) (.int .i64 fo.kind) (.slice q fo.links.length c) (.string fo.text) x1')
          clear g0 g1 g2 g3 f0 f1 f2 f3 hblk hbs
          generalize set4q (B0) (.int .i64 fo.id) (.int .i64 fo.kind) (.slice q fo.links.length c) (.string fo.text) x1' = x5 at hC4 ⊢
          refine wpAnyH_all (rs := [12]) (by kernel_rfl) (by simp) (fun j hj => ?_)
          obtain rfl : j = 12 := by simpa using hj
          refine Or.inl ?_
          go_wp2_with fail
          refine wpAnyH_done (by kernel_rfl) ?_ _
          clear HF x1 z0
          have w0 := fun x (hx : In C x) => (HB.out _ (HCR.out _ hx)).2.2.2.2.2.2.2.1
          have HatB := Lib.hid (fun x (hx : In C x) => (HatI.out x hx).mono (R' := fun e w' => e = .returned (.int .i64 ai) ∧ Below x.heap.size x w') (fun e w' ⟨he, hw⟩ => ⟨he, hw ▸ Below.refl _ _⟩))
          have xi := fun x (hx : In C x) => hce0 x hx
          have hneg := Hneg.out
          have hd1 : decide (0 ≤ ai) = false := decide_eq_false (by omega)
          have hd2 : ¬ 0 ≤ ai := by omega
          rcases Nat.eq_zero_or_pos i with rfl | h0
          · simp only [Nat.add_zero] at xi
            go_wp2_with fail
            refine wp_region_quiet_below (by kernel_rfl) (by kernel_rfl) ?_
            repeat (first | go_big_quiet_skip | quiet_step (exact Calls.regrown_of (HatB.out _ (hCg _ _ _ hC4))))
            refine wpQuiet_nil ?_
            intro _ hw'
            obtain ⟨⟨dq, osq⟩, hw''⟩ := hw'
            subst hw''
            have hC6 := hCg _ dq osq hC4
            generalize Go.Sort.grow (redrawn _ dq) osq = x6 at *
            clear hC4 w0 xi HatB
            go_wp2_with fail
            go_roundw
            case rel => exact ⟨1, by omega, by go_num, hC6⟩
            case measure => simp [intOf]; omega
          · have hlt2 := Hprev.out h0
            have xp := Hpc.out h0
            obtain ⟨k, rfl⟩ : ∃ k, i = k + 1 := ⟨i - 1, by omega⟩
            simp only [Nat.add_sub_cancel] at hlt2 xp
            have hd3 : decide (nth NL (k + 1) ≤ nth NL k) = false := decide_eq_false (by omega)
            have hd4 : ¬ nth NL (k + 1) ≤ nth NL k := by omega
            have hk1 : (0 : Int) ≤ (k : Int) := by omega
            have hk2 : (k : Int) < (nn : Int) := by omega
            have hk3 : (0 : Int) ≤ (k : Int) + 1 := by omega
            have hk4 : (k : Int) + 1 < (nn : Int) := by omega
            have hk5 : (0 : Int) < (k : Int) + 1 := by omega
            have hk6 : decide ((0 : Int) < (k : Int) + 1) = true := decide_eq_true (by omega)
            have hkw := wrap_in (n := (k : Int)) (by omega)
            generalize nth NL (k + 1) = na1 at *
            generalize nth NL k = na0 at *
            go_wp2_with fail
            refine wp_region_quiet_below (by kernel_rfl) (by kernel_rfl) ?_
            repeat (first | go_big_quiet_skip | quiet_step (exact Calls.regrown_of (HatB.out _ (hCg _ _ _ hC4))))
            refine wpQuiet_nil ?_
            intro _ hw'
            obtain ⟨⟨dq, osq⟩, hw''⟩ := hw'
            subst hw''
            have hC6 := hCg _ dq osq hC4
            generalize Go.Sort.grow (redrawn _ dq) osq = x6 at *
            clear hC4 w0 xi HatB xp
            go_wp2_with fail
            go_roundw
            case rel => exact ⟨k + 1 + 1, by omega, by go_num, hC6⟩
            case measure => simp [intOf]; omega
      · obtain rfl : i = nn := by omega
        have hRw := HCR.out _ hCw
        clear hCall hCg hCn hCb hC1 HI HCR hCw hC Hnone Hup Hf Hat
        obtain ⟨c0, c1, c2, c3, c4, c5, c6, d0, d1, d2⟩ := HB.out _ hRw
        go_wp2_with fail
        refine (Ht.out _ (hRb _ hRw)).mono ?_
        rintro e w5 ⟨v5, m5, rfl, hv5, hm5, hb5⟩
        obtain ⟨a5, n5, rfl⟩ := hv5.vshape
        obtain ⟨⟨p5, k5⟩, rfl⟩ := hm5.shape
        have hR6 := hRn _ _ hRw hb5
        clear c0 c1 c2 c3 c4 c5 c6 d0 d1 d2 hm5 hb5 hRw
        by_cases hte : TE = 0
        · subst hte
          obtain ⟨e1, e2, e3⟩ := Hok.out rfl
          have hz := HN.out.trans (congrArg List.length e1)
          simp only [List.length_nil] at hz
          subst hz
          have hN := Hn2.out TL _ _ _ (hRb _ hR6) hv5
          rw [e2, e3] at hN
          have HN2 := Lib.hid hN
          clear hN hv5 Hok Hbad HN
          obtain ⟨c0, c1, c2, c3, c4, c5, c6, d0, d1, d2⟩ := HB.out _ hR6
          go_wp2_with fail
          refine HN2.out.mono ?_
          rintro e w7 ⟨v7, rfl, hv7, hb7⟩
          obtain ⟨⟨q7, k7⟩, rfl⟩ := hv7.shape
          have hR8 := hRn _ _ hR6 hb7
          clear hv7 hb7 c0 c1 c2 c3 c4 c5 c6 d0 d1 d2
          go_wp2_with fail
          go_ret
          exact ⟨rfl, hRb _ hR8⟩
        · have e1 := Hbad.out hte
          have q1 : (TE != 0) = true := by simpa using hte
          subst e1
          clear hv5 Hok Hbad hte
          go_wp2_with fail
          go_ret
          exact ⟨rfl, hRb _ hR6⟩
end Go.Proofs.YtemdnkoknjmheaaGreat
