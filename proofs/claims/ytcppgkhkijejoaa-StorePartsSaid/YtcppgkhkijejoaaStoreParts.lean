
/- Walks: the law StoreParts. -/
import Derived.Test.YtcppgkhkijejoaaRefB
import Derived.Test.YtcppgkhkijejoaaStoreLaw
import Derived.Deep.RegionHeld3
namespace Go.Proofs.Ytcppgkhkijejoaa
open Go.RowKit
set_option linter.unusedVariables false
set_option linter.unusedSimpArgs false

/-- an object reads so in each world of a class -/
def SlOk (T : World → Prop) (o : Obj) (p : Option Addr) (c : Nat) : Prop := ∀ x, In T x → ObjIs (fun _ => True) x o (.slice p o.links.length c)

set_option maxRecDepth 100000 in
set_option maxHeartbeats 8000000 in
theorem storeParts_any (l : List Obj) (m : Int) (lv : Value) (S : Nat → Prop) (w : World) (h : StoreV S w lv l) (hi64 : I64 m) :
    Calls Try.prog 12 #[lv, .int .i64 m] w fun e w' => e = .returned (.bool true) ∧ Below w.heap.size w w' := by
  have HK0 := Lib.hid (show Keep [cB w, cS S lv l] w from ⟨Below.refl _ _, h, trivial⟩)
  obtain ⟨la, n, lc, lna, ln, lcc, HN, rfl, h1, h2, h3, h4, h5⟩ := h.open
  have Hn := Lib.hid HN.out.1
  clear h h4 h5 HN
  have HC := Lib.hid (fun x hx => storeCheck_any l _ _ x (Keep.below HK0.out hx).2.1)
  by_cases hz : checkStore l = 0
  case neg =>
    have hq : (checkStore l != 0) = true := by simpa using hz
    generalize checkStore l = cl at *
    clear hz
    go_enter Try.func12, Try.ntmps12
    go_wp2_with fail
    refine (storeBegun_any _).mono ?_
    rintro e w1 ⟨rfl, hb1⟩
    have HB1 := Lib.hid hb1
    clear hb1
    go_wp2_with fail
    refine (HC.out _ HB1.out).mono ?_
    rintro e w2 ⟨rfl, hb2⟩
    have HB2 := Lib.hid (below_next HB1.out hb2)
    clear hb2
    go_wp2_with fail
    go_ret
    exact ⟨rfl, HB2.out⟩
  case pos =>
    rw [hz] at HC
    by_cases hr : m < 0 ∨ (n : Int) < m
    · have hc : decide (m < 0) = true ∨ (decide (m < 0) = false ∧ decide ((n : Int) < m) = true) := by
        rcases hr with h | h
        · exact .inl (decide_eq_true h)
        · by_cases h' : m < 0
          · exact .inl (decide_eq_true h')
          · exact .inr ⟨decide_eq_false h', decide_eq_true h⟩
      clear hr hz
      rcases hc with hd | ⟨hd, hd2⟩
      all_goals
        go_enter Try.func12, Try.ntmps12
        go_wp2_with fail
        refine (storeBegun_any _).mono ?_
        rintro e w1 ⟨rfl, hb1⟩
        have HB1 := Lib.hid hb1
        clear hb1
        go_wp2_with fail
        refine (HC.out _ HB1.out).mono ?_
        rintro e w2 ⟨rfl, hb2⟩
        have HB2 := Lib.hid (below_next HB1.out hb2)
        clear hb2
        go_wp2_with fail
        go_ret
        exact ⟨rfl, HB2.out⟩
    · obtain ⟨k, rfl⟩ : ∃ k : Nat, m = k := ⟨m.toNat, by omega⟩
      have hd : decide ((k : Int) < 0) = false := decide_eq_false (by omega)
      have hkn : k ≤ n := by omega
      have hd2 : decide ((n : Int) < (k : Int)) = false := decide_eq_false (by omega)
      have hd3 : decide (n < k) = false := decide_eq_false (by omega)
      have hkc : (k : Int) ≤ (lc : Int) := by omega
      have hk0 : (0 : Int) ≤ (k : Int) := by omega
      have hkl : k ≤ l.length := by have := Hn.out; omega
      have Htk := Lib.hid (take_store hz k hkl)
      have Hpf := Lib.hid (fun i (hi : i < n) => part_find hz hkl (i := i) (by have := Hn.out; omega))
      have Hfw := Lib.hid (fun i (hi : i < n) => find_there hz (obj_mem (l := l) (i := i) (by have := Hn.out; omega)))
      clear hr hz
      go_enter Try.func12, Try.ntmps12
      go_wp2_with fail
      refine (storeBegun_any _).mono ?_
      rintro e w1 ⟨rfl, hb1⟩
      have HB1 := Lib.hid hb1
      clear hb1
      go_wp2_with fail
      refine (HC.out _ HB1.out).mono ?_
      rintro e w2 ⟨rfl, hb2⟩
      have HB2 := Lib.hid (below_next HB1.out hb2)
      have HK2 := Lib.hid (HK0.out.below HB2.out)
      have hC2 := storeCheck_any (l.take k) _ _ w2 (HK2.out.2.1.take hkl)
      rw [Htk.out] at hC2
      have HC2 := Lib.hid hC2
      clear hb2 hC2 HK0 HC
      go_wp2_with fail
      refine HC2.out.mono ?_
      rintro e w3 ⟨rfl, hb3⟩
      have HK3 := Lib.hid (HK2.out.below hb3)
      clear hb3 HC2 HK2
      go_wp2_with fail
      go_loopw [5] (fun i wr => ∃ j : Nat, j ≤ n ∧ i = .int .i64 j ∧ Hid (Keep [cB w, cS S (.slice la n lc) l] wr)) (fun i _ => n - (intOf i).toNat)
      case atStart => exact ⟨0, by omega, rfl, HK3.out⟩
      case round =>
        obtain ⟨j, hj, rfl, HK4⟩ := hrel
        clear HK3
        obtain ⟨wo, rfl⟩ : ∃ wo : World, wo = wr := ⟨_, rfl⟩
        by_cases hlt : j < n
        · have hfw := Hfw.out j hlt
          have hpf := Hpf.out j hlt
          obtain ⟨Q, hQ, hQ1, hQall⟩ := cls_plain wo
          have hQb := hQ.below
          have hQn := hQ.next
          have hQa := hQ.alloc
          have hQd := hQ.drew
          obtain ⟨b, off, p, c, e5, hat, ho⟩ := store_elem HK4.out.2.1 (i := j) (by have := Hn.out; omega)
          cases e5
          have z0 := fun x (hx : In Q x) => (hat.below (hQb _ hx)).1
          have HF := Lib.hid (fun x (hx : In Q x) => storeFind_any (l.take k) (obj l j).id _ _ x ((Keep.below HK4.out (hQb _ hx)).2.1.take hkl))
          have hi1 : (0 : Int) ≤ (j : Int) := by omega
          have hi2 : (j : Int) < (n : Int) := by omega
          have HQ4 := Lib.hid (fun x v0 v1 v2 v3 (hx : In Q x) => show In Q (set4 wo.heap.size v0 v1 v2 v3 x) from
            hQall _ ((hQb _ hx).trans ((set4_upd wo.heap.size v0 v1 v2 v3 x).below (B := wo.heap.size) (hQb _ hx).size (fun b hb => Nat.le_of_eq hb.symm))))
          clear hat ho
          obtain ⟨oa, hoa⟩ : ∃ oa, oa = findO (l.take k) (obj l j).id := ⟨_, rfl⟩
          obtain ⟨ea, hea⟩ : ∃ ea, ea = findE (l.take k) (obj l j).id := ⟨_, rfl⟩
          rw [← hoa, ← hea] at HF
          have Hoa := Lib.hid hoa
          have Hea := Lib.hid hea
          clear hoa hea
          go_wp2_with fail
          go_region_held3 (fun x => In Q x) (first | exact hQd _ hQ1 | exact HQ4.out _ _ _ _ _ (by assumption) | exact hQa _ _ (by assumption) | assumption) (first | (go_at_call 45; refine (HF.out _ (by assumption)).mono ?_; rintro e w' ⟨v, rfl, hv, hb⟩; obtain ⟨⟨p3, c3⟩, rfl⟩ := hv.1.shape; have hq' := hQn _ _ (by assumption) hb; have HV := Lib.hid (And.intro hv hb); have hbl := (hb.block wo.heap.size (by simp)).trans (heap_alloc_new wo.drew _); have e0 := block_cell (j := 0) hbl rfl; have g0 := block_free (j := 0) hbl; have e1 := block_cell (j := 1) hbl rfl; have g1 := block_free (j := 1) hbl; have e2 := block_cell (j := 2) hbl rfl; have g2 := block_free (j := 2) hbl; have e3 := block_cell (j := 3) hbl rfl; have g3 := block_free (j := 3) hbl; have HBL := Lib.hid hbl; clear hv hb hbl) | (go_at_call 45; refine (HF.out _ (by assumption)).mono ?_; rintro e w' ⟨v, rfl, hv, hb⟩; obtain ⟨⟨p3, c3⟩, rfl⟩ := hv.1.shape; have hq' := hQn _ _ (by assumption) hb; have HV := Lib.hid (And.intro hv hb); clear hv hb))
          · obtain ⟨B6, hB6⟩ : ∃ B6, B6 = w'.heap.size := ⟨_, rfl⟩
            have HK5 := Lib.hid (show Keep [cH B6 (.cells #[.int .i64 oa.id, .int .i64 oa.kind, .slice p3 oa.links.length c3, .string oa.text] 24 (0, 0)), cO (fun _ => True) oa (.slice p3 oa.links.length c3), cB w, cS S (.slice (some ⟨b, off, none⟩) n lc) l] (w'.alloc (.cells #[.int .i64 oa.id, .int .i64 oa.kind, .slice p3 oa.links.length c3, .string oa.text] 24)) from by
              have hx := hQb _ (hQa _ (.cells #[.int .i64 oa.id, .int .i64 oa.kind, .slice p3 oa.links.length c3, .string oa.text] 24) hq')
              subst hB6
              exact ⟨heap_alloc_new w' _, (HV.out.1.weaken fun _ _ => trivial).below ((Below.refl _ _).alloc (Nat.le_refl _) _), Keep.below HK4.out hx⟩)
            rw [← hB6]
            clear hB6
            generalize w'.alloc _ = x10 at *
            obtain ⟨b2, off2, p2, c2, e2, h2, _⟩ := store_elem HK5.out.2.2.2.1 (i := j) (by have := Hn.out; omega)
            cases e2
            have hat10 := Lib.hid h2
            have x10c := hat10.out.1
            clear h2
            go_wp2_with fail
            have hF2 := storeFind_any l (obj l j).id _ _ x10 HK5.out.2.2.2.1
            rw [hfw.1, hfw.2] at hF2
            have HF2 := Lib.hid hF2
            clear hF2
            refine HF2.out.mono ?_
            rintro e x11 ⟨v11, rfl, hv11, hb11⟩
            obtain ⟨⟨p8, c8⟩, rfl⟩ := hv11.1.shape
            have HK6 := Lib.hid (Keep.push (c := cO (fun _ => True) (obj l j) (.slice p8 (obj l j).links.length c8)) (HK5.out.below hb11) (hv11.weaken fun _ _ => trivial))
            clear hv11 hb11 HK5 HF2 x10c hat10
            go_wp2_with fail
            have HK7 := Lib.hid (Keep.push (c := cH x11.heap.size (.cells #[.int .i64 (obj l j).id, .int .i64 (obj l j).kind, .slice p8 (obj l j).links.length c8, .string (obj l j).text] 24 (0, 0)))
              (HK6.out.alloc (.cells #[.int .i64 (obj l j).id, .int .i64 (obj l j).kind, .slice p8 (obj l j).links.length c8, .string (obj l j).text] 24)) (heap_alloc_new x11 _))
            clear HK6
            generalize x11.heap.size = B8 at *
            generalize x11.alloc _ = x12 at *
            clear hQ1 hQall hQb hQn hQa hQd HQ4 hQ HF z0 hfw
            obtain ⟨T, hT, hT1, _⟩ := cls_plain x12
            have hTb := hT.below
            have hTg := cls_grown hT
            have y0 := fun x (hx : In T x) => block_cell (j := 0) (Keep.below HK7.out (hTb _ hx)).1 rfl
            have y1 := fun x (hx : In T x) => block_cell (j := 1) (Keep.below HK7.out (hTb _ hx)).1 rfl
            have y2 := fun x (hx : In T x) => block_cell (j := 2) (Keep.below HK7.out (hTb _ hx)).1 rfl
            have y3 := fun x (hx : In T x) => block_cell (j := 3) (Keep.below HK7.out (hTb _ hx)).1 rfl
            have q0 := fun x (hx : In T x) => block_cell (j := 0) (Keep.below HK7.out (hTb _ hx)).2.2.1 rfl
            have q1 := fun x (hx : In T x) => block_cell (j := 1) (Keep.below HK7.out (hTb _ hx)).2.2.1 rfl
            have q2 := fun x (hx : In T x) => block_cell (j := 2) (Keep.below HK7.out (hTb _ hx)).2.2.1 rfl
            have q3 := fun x (hx : In T x) => block_cell (j := 3) (Keep.below HK7.out (hTb _ hx)).2.2.1 rfl
            obtain ⟨b', off', p', c', e5, hat, ho⟩ := store_elem HK7.out.2.2.2.2.2.1 (i := j) (by have := Hn.out; omega)
            cases e5
            have z0 := fun x (hx : In T x) => (hat.below (hTb _ hx)).1
            have z1 := fun x (hx : In T x) => (hat.below (hTb _ hx)).2.1
            have z2 := fun x (hx : In T x) => (hat.below (hTb _ hx)).2.2.1
            have z3 := fun x (hx : In T x) => (hat.below (hTb _ hx)).2.2.2
            have HSO := Lib.hid (fun x (hx : In T x) p c p' c' (h1 : SlOk T (obj l j) p c) (h2 : SlOk T (obj l j) p' c') => by
              have := sameObject_any (obj l j) (obj l j) _ _ _ _ x (h1 x hx) (h2 x hx)
              rw [(sameObj_iff _ _).2 rfl] at this; exact this)
            have ok1 : SlOk T (obj l j) p8 c8 := fun x hx => HK7.out.2.1.below (hTb _ hx)
            have ok2 : SlOk T (obj l j) p' c' := fun x hx => ho.below (hTb _ hx)
            clear hat ho
            by_cases hjk : j < k
            · have hoa : oa = obj l j := by rw [Hoa.out]; exact (hpf.1 hjk).2
              have hea : ea = 0 := by rw [Hea.out]; exact (hpf.1 hjk).1
              clear hpf Hoa Hea
              subst hoa
              subst hea
              have ok3 : SlOk T (obj l j) p3 c3 := fun x hx => HK7.out.2.2.2.1.below (hTb _ hx)
              have r1 : decide ((j : Int) < (k : Int)) = true := decide_eq_true (by omega)
              have r2 : decide (j < k) = true := decide_eq_true hjk
              have r3 : decide ((k : Int) ≤ (j : Int)) = false := decide_eq_false (by omega)
              have r4 : decide (k ≤ j) = false := decide_eq_false (by omega)
              have r5 : ¬ k ≤ j := by omega
              refine wp_region_quiet_below (by kernel_rfl) (by kernel_rfl) ?_
              repeat (first | go_big_quiet_skip | quiet_step (exact Calls.regrown_of (HSO.out _ (hTg _ _ _ hT1) _ _ _ _ (by assumption) (by assumption))))
              refine wpQuiet_nil ?_
              intro _ hw'
              obtain ⟨⟨dq, osq⟩, hw''⟩ := hw'
              subst hw''
              have hT2 := hTg _ dq osq hT1
              generalize Go.Sort.grow (redrawn _ dq) osq = x13 at *
              have HK8 := Lib.hid (HK7.out.below (hTb _ hT2))
              clear y0 y1 y2 y3 q0 q1 q2 q3 z0 z1 z2 z3 HSO hT1 HK7 hT2 hTb hTg
              go_wp2_with fail
              go_roundw
              case rel => exact ⟨j + 1, by omega, by go_num, HK8.out.2.2.2.2⟩
              case measure => simp [intOf]; omega
            · have hea : ea = 5 := by rw [Hea.out]; exact hpf.2 (by omega)
              clear hpf Hoa Hea
              subst hea
              have r1 : decide ((j : Int) < (k : Int)) = false := decide_eq_false (by omega)
              have r2 : decide (j < k) = false := decide_eq_false hjk
              have r3 : decide ((k : Int) ≤ (j : Int)) = true := decide_eq_true (by omega)
              have r4 : decide (k ≤ j) = true := decide_eq_true (by omega)
              have r5 : k ≤ j := by omega
              refine wp_region_quiet_below (by kernel_rfl) (by kernel_rfl) ?_
              repeat (first | go_big_quiet_skip | quiet_step (exact Calls.regrown_of (HSO.out _ (hTg _ _ _ hT1) _ _ _ _ (by assumption) (by assumption))))
              refine wpQuiet_nil ?_
              intro _ hw'
              obtain ⟨⟨dq, osq⟩, hw''⟩ := hw'
              subst hw''
              have hT2 := hTg _ dq osq hT1
              generalize Go.Sort.grow (redrawn _ dq) osq = x13 at *
              have HK8 := Lib.hid (HK7.out.below (hTb _ hT2))
              clear y0 y1 y2 y3 q0 q1 q2 q3 z0 z1 z2 z3 HSO hT1 HK7 hT2 hTb hTg
              go_wp2_with fail
              go_roundw
              case rel => exact ⟨j + 1, by omega, by go_num, HK8.out.2.2.2.2⟩
              case measure => simp [intOf]; omega
          · have HK5 := Lib.hid (show Keep [cH wo.heap.size (.cells #[.int .i64 oa.id, .int .i64 oa.kind, .slice p3 oa.links.length c3, .string oa.text] 24 (0, 0)), cO (fun _ => True) oa (.slice p3 oa.links.length c3), cB w, cS S (.slice (some ⟨b, off, none⟩) n lc) l] (set4 wo.heap.size (.int .i64 oa.id) (.int .i64 oa.kind) (.slice p3 oa.links.length c3) (.string oa.text) w') from by
              have hu := set4_upd wo.heap.size (.int .i64 oa.id) (.int .i64 oa.kind) (.slice p3 oa.links.length c3) (.string oa.text) w'
              exact ⟨set4_is HBL.out, (HV.out.1.upd hu (fun b hb e => by simp at hb; omega)).weaken fun _ _ => trivial, Keep.below HK4.out (hQb _ (HQ4.out _ _ _ _ _ hq'))⟩)
            clear HBL e0 e1 e2 e3 g0 g1 g2 g3
            obtain ⟨x10, hx10⟩ : ∃ x10, x10 = set4 wo.heap.size (.int .i64 oa.id) (.int .i64 oa.kind) (.slice p3 oa.links.length c3) (.string oa.text) w' := ⟨_, rfl⟩
            rw [← hx10] at HK5
            unfold set4 at hx10
            rw [← hx10]
            clear hx10
            obtain ⟨b2, off2, p2, c2, e2, h2, _⟩ := store_elem HK5.out.2.2.2.1 (i := j) (by have := Hn.out; omega)
            cases e2
            have hat10 := Lib.hid h2
            have x10c := hat10.out.1
            clear h2
            go_wp2_with fail
            have hF2 := storeFind_any l (obj l j).id _ _ x10 HK5.out.2.2.2.1
            rw [hfw.1, hfw.2] at hF2
            have HF2 := Lib.hid hF2
            clear hF2
            refine HF2.out.mono ?_
            rintro e x11 ⟨v11, rfl, hv11, hb11⟩
            obtain ⟨⟨p8, c8⟩, rfl⟩ := hv11.1.shape
            have HK6 := Lib.hid (Keep.push (c := cO (fun _ => True) (obj l j) (.slice p8 (obj l j).links.length c8)) (HK5.out.below hb11) (hv11.weaken fun _ _ => trivial))
            clear hv11 hb11 HK5 HF2 x10c hat10
            go_wp2_with fail
            have HK7 := Lib.hid (Keep.push (c := cH x11.heap.size (.cells #[.int .i64 (obj l j).id, .int .i64 (obj l j).kind, .slice p8 (obj l j).links.length c8, .string (obj l j).text] 24 (0, 0)))
              (HK6.out.alloc (.cells #[.int .i64 (obj l j).id, .int .i64 (obj l j).kind, .slice p8 (obj l j).links.length c8, .string (obj l j).text] 24)) (heap_alloc_new x11 _))
            clear HK6
            generalize x11.heap.size = B8 at *
            generalize x11.alloc _ = x12 at *
            clear hQ1 hQall hQb hQn hQa hQd HQ4 hQ HF z0 hfw
            obtain ⟨T, hT, hT1, _⟩ := cls_plain x12
            have hTb := hT.below
            have hTg := cls_grown hT
            have y0 := fun x (hx : In T x) => block_cell (j := 0) (Keep.below HK7.out (hTb _ hx)).1 rfl
            have y1 := fun x (hx : In T x) => block_cell (j := 1) (Keep.below HK7.out (hTb _ hx)).1 rfl
            have y2 := fun x (hx : In T x) => block_cell (j := 2) (Keep.below HK7.out (hTb _ hx)).1 rfl
            have y3 := fun x (hx : In T x) => block_cell (j := 3) (Keep.below HK7.out (hTb _ hx)).1 rfl
            have q0 := fun x (hx : In T x) => block_cell (j := 0) (Keep.below HK7.out (hTb _ hx)).2.2.1 rfl
            have q1 := fun x (hx : In T x) => block_cell (j := 1) (Keep.below HK7.out (hTb _ hx)).2.2.1 rfl
            have q2 := fun x (hx : In T x) => block_cell (j := 2) (Keep.below HK7.out (hTb _ hx)).2.2.1 rfl
            have q3 := fun x (hx : In T x) => block_cell (j := 3) (Keep.below HK7.out (hTb _ hx)).2.2.1 rfl
            obtain ⟨b', off', p', c', e5, hat, ho⟩ := store_elem HK7.out.2.2.2.2.2.1 (i := j) (by have := Hn.out; omega)
            cases e5
            have z0 := fun x (hx : In T x) => (hat.below (hTb _ hx)).1
            have z1 := fun x (hx : In T x) => (hat.below (hTb _ hx)).2.1
            have z2 := fun x (hx : In T x) => (hat.below (hTb _ hx)).2.2.1
            have z3 := fun x (hx : In T x) => (hat.below (hTb _ hx)).2.2.2
            have HSO := Lib.hid (fun x (hx : In T x) p c p' c' (h1 : SlOk T (obj l j) p c) (h2 : SlOk T (obj l j) p' c') => by
              have := sameObject_any (obj l j) (obj l j) _ _ _ _ x (h1 x hx) (h2 x hx)
              rw [(sameObj_iff _ _).2 rfl] at this; exact this)
            have ok1 : SlOk T (obj l j) p8 c8 := fun x hx => HK7.out.2.1.below (hTb _ hx)
            have ok2 : SlOk T (obj l j) p' c' := fun x hx => ho.below (hTb _ hx)
            clear hat ho
            by_cases hjk : j < k
            · have hoa : oa = obj l j := by rw [Hoa.out]; exact (hpf.1 hjk).2
              have hea : ea = 0 := by rw [Hea.out]; exact (hpf.1 hjk).1
              clear hpf Hoa Hea
              subst hoa
              subst hea
              have ok3 : SlOk T (obj l j) p3 c3 := fun x hx => HK7.out.2.2.2.1.below (hTb _ hx)
              have r1 : decide ((j : Int) < (k : Int)) = true := decide_eq_true (by omega)
              have r2 : decide (j < k) = true := decide_eq_true hjk
              have r3 : decide ((k : Int) ≤ (j : Int)) = false := decide_eq_false (by omega)
              have r4 : decide (k ≤ j) = false := decide_eq_false (by omega)
              have r5 : ¬ k ≤ j := by omega
              refine wp_region_quiet_below (by kernel_rfl) (by kernel_rfl) ?_
              repeat (first | go_big_quiet_skip | quiet_step (exact Calls.regrown_of (HSO.out _ (hTg _ _ _ hT1) _ _ _ _ (by assumption) (by assumption))))
              refine wpQuiet_nil ?_
              intro _ hw'
              obtain ⟨⟨dq, osq⟩, hw''⟩ := hw'
              subst hw''
              have hT2 := hTg _ dq osq hT1
              generalize Go.Sort.grow (redrawn _ dq) osq = x13 at *
              have HK8 := Lib.hid (HK7.out.below (hTb _ hT2))
              clear y0 y1 y2 y3 q0 q1 q2 q3 z0 z1 z2 z3 HSO hT1 HK7 hT2 hTb hTg
              go_wp2_with fail
              go_roundw
              case rel => exact ⟨j + 1, by omega, by go_num, HK8.out.2.2.2.2⟩
              case measure => simp [intOf]; omega
            · have hea : ea = 5 := by rw [Hea.out]; exact hpf.2 (by omega)
              clear hpf Hoa Hea
              subst hea
              have r1 : decide ((j : Int) < (k : Int)) = false := decide_eq_false (by omega)
              have r2 : decide (j < k) = false := decide_eq_false hjk
              have r3 : decide ((k : Int) ≤ (j : Int)) = true := decide_eq_true (by omega)
              have r4 : decide (k ≤ j) = true := decide_eq_true (by omega)
              have r5 : k ≤ j := by omega
              refine wp_region_quiet_below (by kernel_rfl) (by kernel_rfl) ?_
              repeat (first | go_big_quiet_skip | quiet_step (exact Calls.regrown_of (HSO.out _ (hTg _ _ _ hT1) _ _ _ _ (by assumption) (by assumption))))
              refine wpQuiet_nil ?_
              intro _ hw'
              obtain ⟨⟨dq, osq⟩, hw''⟩ := hw'
              subst hw''
              have hT2 := hTg _ dq osq hT1
              generalize Go.Sort.grow (redrawn _ dq) osq = x13 at *
              have HK8 := Lib.hid (HK7.out.below (hTb _ hT2))
              clear y0 y1 y2 y3 q0 q1 q2 q3 z0 z1 z2 z3 HSO hT1 HK7 hT2 hTb hTg
              go_wp2_with fail
              go_roundw
              case rel => exact ⟨j + 1, by omega, by go_num, HK8.out.2.2.2.2⟩
              case measure => simp [intOf]; omega
        · obtain rfl : j = n := by omega
          go_wp2_with fail
          go_ret
          exact ⟨rfl, HK4.out.1⟩
end Go.Proofs.Ytcppgkhkijejoaa
