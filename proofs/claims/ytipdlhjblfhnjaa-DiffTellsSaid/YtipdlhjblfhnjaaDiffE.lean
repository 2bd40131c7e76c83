
/- DiffE: the reference's LeadOf. -/
import Derived.Test.YtipdlhjblfhnjaaDiffB
import Derived.Test.YtipdlhjblfhnjaaRowU
import Derived.Deep.RegionLaw
namespace Go.Proofs.Ytipdlhjblfhnjaa
open Go.RowKit
set_option linter.unusedVariables false
set_option linter.unusedSimpArgs false

/-- what is told when i and k names have been passed -/
def LeadAt (l m : List Rf) (i k : Nat) (O : List Mv) : Prop := O.length ≤ i + k ∧ ∃ N, (l.length - i) + (m.length - k) ≤ N ∧ leadL l m = O ++ leadN N (l.drop i) (m.drop k)
theorem drop_rf {l : List Rf} {i : Nat} (h : i < l.length) : l.drop i = rf l i :: l.drop (i + 1) := by rw [rf_lt h]; exact List.drop_eq_getElem_cons h
theorem LeadAt.start (l m : List Rf) : LeadAt l m 0 0 [] := ⟨by simp, l.length + m.length, by omega, rfl⟩
theorem LeadAt.from {l m : List Rf} {i k : Nat} {O : List Mv} (h : LeadAt l m i k O) (hi : i < l.length) (hc : k = m.length ∨ (k < m.length ∧ strLt (rf l i).name (rf m k).name = true)) : LeadAt l m (i + 1) k (O ++ [⟨(rf l i).name, 0, (rf l i).id⟩]) := by
  obtain ⟨h1, N, h2, h3⟩ := h
  refine ⟨by simp; omega, N - 1, by omega, ?_⟩
  obtain ⟨N', rfl⟩ : ∃ N', N = N' + 1 := ⟨N - 1, by omega⟩
  rw [h3, drop_rf hi, List.append_assoc]
  rcases hc with rfl | ⟨hk, hq⟩
  · rw [List.drop_eq_nil_of_le (Nat.le_refl m.length), leadN]; rfl
  · rw [drop_rf hk, leadN, if_pos hq]; rfl
theorem LeadAt.to {l m : List Rf} {i k : Nat} {O : List Mv} (h : LeadAt l m i k O) (hk : k < m.length) (hc : i = l.length ∨ (i < l.length ∧ strLt (rf l i).name (rf m k).name = false ∧ strLt (rf m k).name (rf l i).name = true)) : LeadAt l m i (k + 1) (O ++ [⟨(rf m k).name, (rf m k).id, 0⟩]) := by
  obtain ⟨h1, N, h2, h3⟩ := h
  refine ⟨by simp; omega, N - 1, by omega, ?_⟩
  obtain ⟨N', rfl⟩ : ∃ N', N = N' + 1 := ⟨N - 1, by omega⟩
  rw [h3, drop_rf hk, List.append_assoc]
  rcases hc with rfl | ⟨hi, hq, hq2⟩
  · rw [List.drop_eq_nil_of_le (Nat.le_refl l.length), leadN]; rfl
  · rw [drop_rf hi, leadN, if_neg (by simp [hq]), if_pos hq2]; rfl
theorem LeadAt.same {l m : List Rf} {i k : Nat} {O : List Mv} (h : LeadAt l m i k O) (hi : i < l.length) (hk : k < m.length) (h1 : strLt (rf l i).name (rf m k).name = false) (h2 : strLt (rf m k).name (rf l i).name = false) (hid : (rf l i).id = (rf m k).id) : LeadAt l m (i + 1) (k + 1) O := by
  obtain ⟨g1, N, g2, g3⟩ := h
  refine ⟨by omega, N - 1, by omega, ?_⟩
  obtain ⟨N', rfl⟩ : ∃ N', N = N' + 1 := ⟨N - 1, by omega⟩
  rw [g3, drop_rf hk, drop_rf hi, leadN, if_neg (by simp [h1]), if_neg (by simp [h2]), if_pos hid]; rfl
theorem LeadAt.moved {l m : List Rf} {i k : Nat} {O : List Mv} (h : LeadAt l m i k O) (hi : i < l.length) (hk : k < m.length) (h1 : strLt (rf l i).name (rf m k).name = false) (h2 : strLt (rf m k).name (rf l i).name = false) (hid : (rf l i).id ≠ (rf m k).id) : LeadAt l m (i + 1) (k + 1) (O ++ [⟨(rf m k).name, (rf m k).id, (rf l i).id⟩]) := by
  obtain ⟨g1, N, g2, g3⟩ := h
  refine ⟨by simp; omega, N - 1, by omega, ?_⟩
  obtain ⟨N', rfl⟩ : ∃ N', N = N' + 1 := ⟨N - 1, by omega⟩
  rw [g3, drop_rf hk, drop_rf hi, leadN, if_neg (by simp [h1]), if_neg (by simp [h2]), if_neg hid, List.append_assoc]; rfl
theorem LeadAt.done {l m : List Rf} {O : List Mv} (h : LeadAt l m l.length m.length O) : O = leadL l m := by
  obtain ⟨_, N, _, h3⟩ := h
  rw [h3, List.drop_eq_nil_of_le (Nat.le_refl l.length), List.drop_eq_nil_of_le (Nat.le_refl m.length)]
  cases N <;> simp [leadN]

/-- updates come back -/
def RetMvs (w w' : World) (e : Ending) (l : List Mv) : Prop := ∃ v, e = .returned v ∧ MvsV (fun _ => True) w' v l ∧ Below w.heap.size w w'

set_option maxRecDepth 100000 in
set_option maxHeartbeats 8000000 in
theorem leadOf_any (l m : List Rf) (v u : Value) (S S' : Nat → Prop) (w : World) (h : RefsV S w v l) (hm : RefsV S' w u m) (h8 : l.length ≤ 8) (d8 : m.length ≤ 8) :
    Calls Try.prog 12 #[v, u] w fun e w' => RetMvs w w' e (leadL l m) := by
  obtain ⟨a, n, cap, HN, rfl, h1, h2, h3, h4, h5⟩ := h.open
  obtain ⟨ma, n', mcap, HN', rfl, d1, d2, d3, d4, d5⟩ := hm.open
  have H5 := Lib.hid h5
  have D5 := Lib.hid d5
  clear h hm h5 d5
  obtain ⟨R, hR, hR1, hRall⟩ := cls_plain w
  have hRb := hR.below
  have hRn := hR.drewN
  have hn8 : n ≤ 8 := by rw [HN.out]; exact h8
  have hd8 : n' ≤ 8 := by rw [HN'.out]; exact d8
  have HH := Lib.hid (fun x (hx : In R x) (w5 : World) (v : Value) (hu5 : Upd (fun b => Value.ownBlock v = some b) x w5) (hv : ∀ g, Value.ownBlock v = some g → w.heap.size ≤ g) => show In R w5 from hRall _ ((hRb _ hx).trans (hu5.below (B := w.heap.size) (hRb _ hx).size (fun b hb => hv b hb))))
  clear h8 d8
  go_enter Try.func12, Try.ntmps12
  go_wp2_with fail
  go_loopw [5, 6, 7] (fun v i k wr => ∃ (p q : Nat) (O : List Mv), p ≤ n ∧ q ≤ n' ∧ i = .int .i64 p ∧ k = .int .i64 q ∧ Hid (OwnU w.heap.size wr v O ∧ LeadAt l m p q O) ∧ In R wr) (fun _ i k _ => (n - (intOf i).toNat) + (n' - (intOf k).toNat))
  case atStart => exact ⟨0, 0, [], by omega, by omega, rfl, rfl, ⟨OwnU.nil _ _, LeadAt.start _ _⟩, hR1⟩
  case round =>
    obtain ⟨p, q, O, hp, hq, rfl, rfl, HG0, hRw⟩ := hrel
    clear hR1
    obtain ⟨va, vc, hvs⟩ := HG0.out.1.shape
    subst hvs
    have hOl := HG0.out.2.1
    have hi0 : (0 : Int) ≤ (p : Int) := by omega
    have hj0 : (0 : Int) ≤ (q : Int) := by omega
    by_cases hqt : q < n'
    · by_cases hlt : p < n
      · skip
        obtain ⟨b, off, rfl, hb, k0, k1⟩ := h4 (by omega)
        have x0 := fun x (hx : In R x) => k0 p x hlt (hRb _ hx)
        have x1 := fun x (hx : In R x) => k1 p x hlt (hRb _ hx)
        clear h4 k0 k1
        have hi2 : (p : Int) < (n : Int) := by omega
        have hpn : ¬ p = n := by omega
        have hpn2 : ((p : Int) == (n : Int)) = false := by simp; omega
        have Hp := Lib.hid (H5.out p hlt)
        have hll : p < l.length := by rw [← HN.out]; exact hlt
        obtain ⟨mb, moff, rfl, hmb, q0, q1⟩ := d4 (by omega)
        have z0 := fun x (hx : In R x) => q0 q x hqt (hRb _ hx)
        have z1 := fun x (hx : In R x) => q1 q x hqt (hRb _ hx)
        clear d4 q0 q1
        have hj2 : (q : Int) < (n' : Int) := by omega
        have hqn : ¬ q = n' := by omega
        have hqn2 : ((q : Int) == (n' : Int)) = false := by simp; omega
        have Hq := Lib.hid (D5.out q hqt)
        have hqm : q < m.length := by rw [← HN'.out]; exact hqt
        have Hs1 := Lib.hid (show strLt (rf l p).name (rf m q).name = Op.bytesLess (rf l p).name.toList (rf m q).name.toList from rfl)
        have Hs2 := Lib.hid (show strLt (rf m q).name (rf l p).name = Op.bytesLess (rf m q).name.toList (rf l p).name.toList from rfl)
        cases qa : Op.bytesLess (rf l p).name.toList (rf m q).name.toList
        · cases qb : Op.bytesLess (rf m q).name.toList (rf l p).name.toList
          · by_cases hid : (rf l p).id = (rf m q).id
            · have hne : ((rf l p).id != (rf m q).id) = false := by simp [hid]
              have HLs := Lib.hid (HG0.out.2.same hll hqm (by rw [Hs1.out]; exact qa) (by rw [Hs2.out]; exact qb) hid)
              clear hid
              go_wp2_with fail
              go_quiet (fail)
              have hRw2 := hRn _ nq hRw
              have HG := Lib.hid (And.intro (HG0.out.1.below (below_drewN _ _ nq (Below.refl _ _))) HG0.out.2)
              clear HG0 hRw
              generalize wr.drewN nq = wz1 at *
              have HG0 := HG
              have hRw := hRw2
              clear HG hRw2
              go_wp2_with fail
              go_quiet (fail)
              have hRw2 := hRn _ nq hRw
              have HG := Lib.hid (And.intro (HG0.out.1.below (below_drewN _ _ nq (Below.refl _ _))) HG0.out.2)
              clear HG0 hRw
              generalize wz1.drewN nq = wz2 at *
              have HG0 := HG
              have hRw := hRw2
              clear HG hRw2
              go_wp2_with fail
              go_quiet (fail)
              have hRw2 := hRn _ nq hRw
              have HG := Lib.hid (And.intro (HG0.out.1.below (below_drewN _ _ nq (Below.refl _ _))) HG0.out.2)
              clear HG0 hRw
              generalize wz2.drewN nq = wz3 at *
              have HG0 := HG
              have hRw := hRw2
              clear HG hRw2
              go_wp2_with fail
              go_roundw
              case rel => exact ⟨p + 1, q + 1, O, by omega, by omega, by go_num, by go_num, ⟨HG0.out.1, HLs.out⟩, hRw⟩
              case measure => simp [intOf]; omega
            · have hne : ((rf l p).id != (rf m q).id) = true := by simp [hid]
              have HLs := Lib.hid (HG0.out.2.moved hll hqm (by rw [Hs1.out]; exact qa) (by rw [Hs2.out]; exact qb) hid)
              clear hid
              go_wp2_with fail
              go_quiet (fail)
              have hRw2 := hRn _ nq hRw
              have HG := Lib.hid (And.intro (HG0.out.1.below (below_drewN _ _ nq (Below.refl _ _))) HG0.out.2)
              clear HG0 hRw
              generalize wr.drewN nq = wz1 at *
              have HG0 := HG
              have hRw := hRw2
              clear HG hRw2
              go_wp2_with fail
              go_quiet (fail)
              have hRw2 := hRn _ nq hRw
              have HG := Lib.hid (And.intro (HG0.out.1.below (below_drewN _ _ nq (Below.refl _ _))) HG0.out.2)
              clear HG0 hRw
              generalize wz1.drewN nq = wz2 at *
              have HG0 := HG
              have hRw := hRw2
              clear HG hRw2
              go_wp2_with fail
              go_quiet (fail)
              have hRw2 := hRn _ nq hRw
              have HG := Lib.hid (And.intro (HG0.out.1.below (below_drewN _ _ nq (Below.refl _ _))) HG0.out.2)
              clear HG0 hRw
              generalize wz2.drewN nq = wz3 at *
              have HG0 := HG
              have hRw := hRw2
              clear HG hRw2
              go_wp2_with fail
              have hRd := hR.drew _ hRw
              have hBs := (hRb _ hRd).size
              have HGd := Lib.hid (HG0.out.1.below (Below.refl _ _).drew)
              have HLd := Lib.hid (HLs.out)
              try have x0d := x0 _ hRd
              try have x1d := x1 _ hRd
              try have z0d := z0 _ hRd
              try have z1d := z1 _ hRd
              go_region_law (refine step_append_mv (p := ⟨(rf m q).name, (rf m q).id, (rf l p).id⟩) (by rfl) _ _ (by rfl) HGd.out ⟨Hq.out.1, Hp.out.1, Hq.out.2⟩ (by omega) hBs (by rfl) (by rfl) (by rfl) ?_; intro g9 c9 w5 hG5 hu5)
              all_goals
                have hR5 := HH.out _ hRd w5 _ hu5 (fun g hg => (HGd.out.block hg).1)
                have HE := Lib.hid (And.intro hG5 HLd.out)
                clear hG5 hu5
                go_wp2_with fail
                go_roundw
                case rel => exact ⟨p + 1, q + 1, _, by omega, by omega, by go_num, by go_num, HE.out, hR5⟩
                case measure => simp [intOf]; omega
          · have HLs := Lib.hid (HG0.out.2.to hqm (.inr ⟨hll, by rw [Hs1.out]; exact qa, by rw [Hs2.out]; exact qb⟩))
            go_wp2_with fail
            go_quiet (fail)
            have hRw2 := hRn _ nq hRw
            have HG := Lib.hid (And.intro (HG0.out.1.below (below_drewN _ _ nq (Below.refl _ _))) HG0.out.2)
            clear HG0 hRw
            generalize wr.drewN nq = wz1 at *
            have HG0 := HG
            have hRw := hRw2
            clear HG hRw2
            go_wp2_with fail
            go_quiet (fail)
            have hRw2 := hRn _ nq hRw
            have HG := Lib.hid (And.intro (HG0.out.1.below (below_drewN _ _ nq (Below.refl _ _))) HG0.out.2)
            clear HG0 hRw
            generalize wz1.drewN nq = wz2 at *
            have HG0 := HG
            have hRw := hRw2
            clear HG hRw2
            go_wp2_with fail
            have hRd := hR.drew _ hRw
            have hBs := (hRb _ hRd).size
            have HGd := Lib.hid (HG0.out.1.below (Below.refl _ _).drew)
            have HLd := Lib.hid (HLs.out)
            try have x0d := x0 _ hRd
            try have x1d := x1 _ hRd
            try have z0d := z0 _ hRd
            try have z1d := z1 _ hRd
            go_region_law (refine step_append_mv (p := ⟨(rf m q).name, (rf m q).id, 0⟩) (by rfl) _ _ (by rfl) HGd.out ⟨Hq.out.1, (show I64 0 from by constructor <;> decide), Hq.out.2⟩ (by omega) hBs (by rfl) (by rfl) (by rfl) ?_; intro g9 c9 w5 hG5 hu5)
            all_goals
              have hR5 := HH.out _ hRd w5 _ hu5 (fun g hg => (HGd.out.block hg).1)
              have HE := Lib.hid (And.intro hG5 HLd.out)
              clear hG5 hu5
              go_wp2_with fail
              go_roundw
              case rel => exact ⟨p, q + 1, _, by omega, by omega, by go_num, by go_num, HE.out, hR5⟩
              case measure => simp [intOf]; omega
        · have HLs := Lib.hid (HG0.out.2.from hll (.inr ⟨hqm, by rw [Hs1.out]; exact qa⟩))
          go_wp2_with fail
          go_quiet (fail)
          have hRw2 := hRn _ nq hRw
          have HG := Lib.hid (And.intro (HG0.out.1.below (below_drewN _ _ nq (Below.refl _ _))) HG0.out.2)
          clear HG0 hRw
          generalize wr.drewN nq = wz1 at *
          have HG0 := HG
          have hRw := hRw2
          clear HG hRw2
          go_wp2_with fail
          have hRd := hR.drew _ hRw
          have hBs := (hRb _ hRd).size
          have HGd := Lib.hid (HG0.out.1.below (Below.refl _ _).drew)
          have HLd := Lib.hid (HLs.out)
          try have x0d := x0 _ hRd
          try have x1d := x1 _ hRd
          try have z0d := z0 _ hRd
          try have z1d := z1 _ hRd
          go_region_law (refine step_append_mv (p := ⟨(rf l p).name, 0, (rf l p).id⟩) (by rfl) _ _ (by rfl) HGd.out ⟨(show I64 0 from by constructor <;> decide), Hp.out.1, Hp.out.2⟩ (by omega) hBs (by rfl) (by rfl) (by rfl) ?_; intro g9 c9 w5 hG5 hu5)
          all_goals
            have hR5 := HH.out _ hRd w5 _ hu5 (fun g hg => (HGd.out.block hg).1)
            have HE := Lib.hid (And.intro hG5 HLd.out)
            clear hG5 hu5
            go_wp2_with fail
            go_roundw
            case rel => exact ⟨p + 1, q, _, by omega, by omega, by go_num, by go_num, HE.out, hR5⟩
            case measure => simp [intOf]; omega
      · obtain rfl : p = n := by omega
        obtain ⟨mb, moff, rfl, hmb, q0, q1⟩ := d4 (by omega)
        have z0 := fun x (hx : In R x) => q0 q x hqt (hRb _ hx)
        have z1 := fun x (hx : In R x) => q1 q x hqt (hRb _ hx)
        clear d4 q0 q1
        have hj2 : (q : Int) < (n' : Int) := by omega
        have hqn : ¬ q = n' := by omega
        have hqn2 : ((q : Int) == (n' : Int)) = false := by simp; omega
        have Hq := Lib.hid (D5.out q hqt)
        have hqm : q < m.length := by rw [← HN'.out]; exact hqt
        have HLs := Lib.hid (HG0.out.2.to hqm (.inl HN.out))
        go_wp2_with fail
        go_quiet (fail)
        have hRw2 := hRn _ nq hRw
        have HG := Lib.hid (And.intro (HG0.out.1.below (below_drewN _ _ nq (Below.refl _ _))) HG0.out.2)
        clear HG0 hRw
        generalize wr.drewN nq = wz1 at *
        have HG0 := HG
        have hRw := hRw2
        clear HG hRw2
        go_wp2_with fail
        go_quiet (fail)
        have hRw2 := hRn _ nq hRw
        have HG := Lib.hid (And.intro (HG0.out.1.below (below_drewN _ _ nq (Below.refl _ _))) HG0.out.2)
        clear HG0 hRw
        generalize wz1.drewN nq = wz2 at *
        have HG0 := HG
        have hRw := hRw2
        clear HG hRw2
        go_wp2_with fail
        have hRd := hR.drew _ hRw
        have hBs := (hRb _ hRd).size
        have HGd := Lib.hid (HG0.out.1.below (Below.refl _ _).drew)
        have HLd := Lib.hid (HLs.out)
        try have x0d := x0 _ hRd
        try have x1d := x1 _ hRd
        try have z0d := z0 _ hRd
        try have z1d := z1 _ hRd
        go_region_law (refine step_append_mv (p := ⟨(rf m q).name, (rf m q).id, 0⟩) (by rfl) _ _ (by rfl) HGd.out ⟨Hq.out.1, (show I64 0 from by constructor <;> decide), Hq.out.2⟩ (by omega) hBs (by rfl) (by rfl) (by rfl) ?_; intro g9 c9 w5 hG5 hu5)
        all_goals
          have hR5 := HH.out _ hRd w5 _ hu5 (fun g hg => (HGd.out.block hg).1)
          have HE := Lib.hid (And.intro hG5 HLd.out)
          clear hG5 hu5
          go_wp2_with fail
          go_roundw
          case rel => exact ⟨p, q + 1, _, by omega, by omega, by go_num, by go_num, HE.out, hR5⟩
          case measure => simp [intOf]; omega
    · obtain rfl : q = n' := by omega
      by_cases hlt : p < n
      · skip
        obtain ⟨b, off, rfl, hb, k0, k1⟩ := h4 (by omega)
        have x0 := fun x (hx : In R x) => k0 p x hlt (hRb _ hx)
        have x1 := fun x (hx : In R x) => k1 p x hlt (hRb _ hx)
        clear h4 k0 k1
        have hi2 : (p : Int) < (n : Int) := by omega
        have hpn : ¬ p = n := by omega
        have hpn2 : ((p : Int) == (n : Int)) = false := by simp; omega
        have Hp := Lib.hid (H5.out p hlt)
        have hll : p < l.length := by rw [← HN.out]; exact hlt
        have HLs := Lib.hid (HG0.out.2.from hll (.inl HN'.out))
        go_wp2_with fail
        go_quiet (fail)
        have hRw2 := hRn _ nq hRw
        have HG := Lib.hid (And.intro (HG0.out.1.below (below_drewN _ _ nq (Below.refl _ _))) HG0.out.2)
        clear HG0 hRw
        generalize wr.drewN nq = wz1 at *
        have HG0 := HG
        have hRw := hRw2
        clear HG hRw2
        go_wp2_with fail
        have hRd := hR.drew _ hRw
        have hBs := (hRb _ hRd).size
        have HGd := Lib.hid (HG0.out.1.below (Below.refl _ _).drew)
        have HLd := Lib.hid (HLs.out)
        try have x0d := x0 _ hRd
        try have x1d := x1 _ hRd
        try have z0d := z0 _ hRd
        try have z1d := z1 _ hRd
        go_region_law (refine step_append_mv (p := ⟨(rf l p).name, 0, (rf l p).id⟩) (by rfl) _ _ (by rfl) HGd.out ⟨(show I64 0 from by constructor <;> decide), Hp.out.1, Hp.out.2⟩ (by omega) hBs (by rfl) (by rfl) (by rfl) ?_; intro g9 c9 w5 hG5 hu5)
        all_goals
          have hR5 := HH.out _ hRd w5 _ hu5 (fun g hg => (HGd.out.block hg).1)
          have HE := Lib.hid (And.intro hG5 HLd.out)
          clear hG5 hu5
          go_wp2_with fail
          go_roundw
          case rel => exact ⟨p + 1, q, _, by omega, by omega, by go_num, by go_num, HE.out, hR5⟩
          case measure => simp [intOf]; omega
      · obtain rfl : p = n := by omega
        have HF := Lib.hid (show O = leadL l m by have := HG0.out.2; rw [HN.out, HN'.out] at this; exact this.done)
        have HMv := Lib.hid (HG0.out.1.mvs (by omega))
        go_wp2_with fail
        go_ret
        rw [← HF.out]
        exact ⟨_, rfl, HMv.out.weaken fun _ _ => trivial, hRb _ hRw⟩
end Go.Proofs.Ytipdlhjblfhnjaa
