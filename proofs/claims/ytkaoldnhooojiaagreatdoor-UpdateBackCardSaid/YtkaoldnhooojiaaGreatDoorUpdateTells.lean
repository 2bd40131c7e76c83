
/- Walks: updateBegun; the law UpdateTells. -/
import Derived.Test.YtkaoldnhooojiaaGreatDoorLineB
import Derived.Deep.DeepCutAuto
namespace Go.Proofs.YtkaoldnhooojiaaGreatDoor
open Go.RowKit
set_option linter.unusedVariables false
set_option linter.unusedSimpArgs false

abbrev cMu (S : Nat → Prop) (v : Value) (l : List Mv) : Claim := ⟨fun x => MvsV S x v l, fun _ _ h hb => h.below hb⟩
abbrev cRu (S : Nat → Prop) (v : Value) (l : List Rf) : Claim := ⟨fun x => RefsV S x v l, fun _ _ h hb => h.below hb⟩
theorem mvs_newU (w : World) (l : List Mv) (t : TypeId) (N : Nat) (hN : N = w.heap.size) (hl : l.length * 32 ≤ 140737488351232) (h : ∀ u ∈ l, I64 u.old ∧ I64 u.new ∧ u.name.size ≤ 140737488351232) :
    MvsV (fun b => b = N) (w.alloc (.cells (flat (fun i => mvCells (mv l i)) l.length).toArray t)) (.slice (some ⟨N, 0, none⟩) l.length l.length) l :=
  ⟨sl_new w _ 3 32 _ t N hN (fun _ _ => rfl) hl (by omega), h⟩
def movesV : List Mv := [⟨⟨#[109, 97, 105, 110]⟩, 3, 5⟩, ⟨⟨#[98]⟩, 0, 3⟩]
def backV : List Mv := [⟨⟨#[120, 47, 121]⟩, 5, 3⟩]
def wantV : List Rf := [⟨⟨#[98]⟩, 3⟩, ⟨⟨#[109, 97, 105, 110]⟩, 5⟩, ⟨⟨#[120, 47, 121]⟩, 5⟩]
theorem begun_u1 : applyE namesL shelfL movesV false = 0 := by decide +kernel
theorem begun_u2 : applyR namesL shelfL movesV false = wantV := (sameRefs_iff _ _).1 (by decide +kernel)
theorem begun_u3 : checkMvs movesV = 0 := by decide +kernel
theorem begun_u5 : applyE namesL shelfL backV false = 4 := by decide +kernel
theorem begun_u4 : textL movesV = ⟨#[98, 32, 48, 32, 51, 59, 109, 97, 105, 110, 32, 51, 32, 53, 59]⟩ := by
  have hp : ([⟨⟨#[98]⟩, 0, 3⟩, ⟨⟨#[109, 97, 105, 110]⟩, 3, 5⟩] : List Mv).Perm movesV := List.Perm.swap _ _ _
  rw [text_line hp (by unfold RisesM; exact List.pairwise_cons.2 ⟨fun x hx => by rw [List.mem_singleton.1 hx]; decide +kernel, List.pairwise_singleton _ _⟩) (by
    intro u hu
    simp only [movesV, List.mem_cons, List.not_mem_nil, or_false] at hu
    rcases hu with rfl | rfl <;> decide)]
  simp only [lineL, one_same, textOne]
  rw [dec_small (n := 0) (by decide) (by decide), dec_small (n := 3) (by decide) (by decide), dec_small (n := 5) (by decide) (by decide)]
  decide +kernel
theorem refsAre_ok (l : List Rf) (e : Int) (h : e ≠ 0 → l = []) : refsAreB l e e l = true := by
  unfold refsAreB
  by_cases hc : e = 0
  · rw [if_pos hc, (sameRefs_iff _ _).2 rfl]; simp
  · rw [if_neg hc, h hc, (sameRefs_iff _ _).2 rfl]; simp
def textU (us : List Mv) : ByteArray := if checkMvs us = 0 then textL us else ByteArray.empty

theorem movesV_any (w : World) : Calls Tryz.prog 41 #[] w fun e w' => ∃ v, e = .returned v ∧ MvsV (fun b => w.heap.size ≤ b) w' v movesV ∧ Below w.heap.size w w' := by
  go_enter Tryz.func41, Tryz.ntmps41
  go_wp2_with fail
  go_ret
  have h := mvs_newU w movesV 36 w.heap.size rfl (by decide) (by
    intro r hr
    simp only [movesV, List.mem_cons, List.not_mem_nil, or_false] at hr
    rcases hr with rfl | rfl <;> exact ⟨small64 _ (by decide), small64 _ (by decide), by decide⟩)
  exact ⟨_, rfl, h.weaken (fun b hb => by omega), (Below.refl _ _).alloc (Nat.le_refl _) _⟩

set_option maxRecDepth 100000 in
set_option maxHeartbeats 8000000 in
theorem updateBegun_any (w : World) : Calls Tryz.prog 15 #[] w fun e w' => e = .returned (.bool true) ∧ Below w.heap.size w w' := by
  have HK0 := Lib.hid (Keep.start w)
  go_enter Tryz.func15, Tryz.ntmps15
  go_wp2_with fail
  refine (names_any _).mono ?_
  rintro e w1 ⟨v1, rfl, hv1, hb1⟩
  obtain ⟨⟨p1, c1⟩, rfl⟩ := hv1.shape
  have HK1 := Lib.hid (Keep.push (c := cRu (fun _ => True) (.slice p1 namesL.length c1) namesL) (HK0.out.below hb1) (hv1.weaken fun _ _ => trivial))
  clear hv1 hb1 HK0
  go_wp2_with fail
  refine (shelf_any _).mono ?_
  rintro e w2 ⟨v2, rfl, hv2, hb2⟩
  obtain ⟨p2, c2, rfl⟩ := hv2.vshape
  have HK2 := Lib.hid (Keep.push (c := cS (fun _ => True) (.slice p2 shelfL.length c2) shelfL) (HK1.out.below hb2) (hv2.weaken fun _ _ => trivial))
  clear hv2 hb2 HK1
  go_wp2_with fail
  refine (movesV_any _).mono ?_
  rintro e w3 ⟨v3, rfl, hv3, hb3⟩
  obtain ⟨⟨p3, c3⟩, rfl⟩ := hv3.shape
  have HK3 := Lib.hid (HK2.out.below hb3)
  have hA := apply_any namesL shelfL movesV false _ _ _ _ _ _ w3 HK3.out.2.1 HK3.out.1 hv3
  rw [begun_u1, begun_u2] at hA
  have HA := Lib.hid hA
  clear hv3 hb3 HK2 hA
  go_wp2_with fail
  refine HA.out.mono ?_
  rintro e w4 ⟨v4, rfl, hv4, hb4⟩
  obtain ⟨⟨p4, c4⟩, rfl⟩ := hv4.shape
  have HK4 := Lib.hid (show Keep [cRu (fun _ => True) (.slice p4 wantV.length c4) wantV, cB w] w4 from ⟨hv4.weaken fun _ _ => trivial, (HK3.out.below hb4).2.2⟩)
  clear hv4 hb4 HK3 HA
  go_wp2_with fail
  refine (movesV_any _).mono ?_
  rintro e w5 ⟨v5, rfl, hv5, hb5⟩
  obtain ⟨⟨p5, c5⟩, rfl⟩ := hv5.shape
  have HK5 := Lib.hid (HK4.out.below hb5)
  have hA := text_any movesV _ _ w5 hv5
  rw [begun_u3, if_pos rfl, begun_u4] at hA
  have HA := Lib.hid hA
  clear hv5 hb5 HK4 hA
  go_wp2_with fail
  refine HA.out.mono ?_
  rintro e w6 ⟨rfl, hb6⟩
  have HK6 := Lib.hid (HK5.out.below hb6)
  clear hb6 HK5 HA
  go_wp2_with fail
  refine (names_any _).mono ?_
  rintro e w7 ⟨v7, rfl, hv7, hb7⟩
  obtain ⟨⟨p7, c7⟩, rfl⟩ := hv7.shape
  have HK7 := Lib.hid (Keep.push (c := cRu (fun _ => True) (.slice p7 namesL.length c7) namesL) (HK6.out.below hb7) (hv7.weaken fun _ _ => trivial))
  clear hv7 hb7 HK6
  go_wp2_with fail
  refine (shelf_any _).mono ?_
  rintro e w8 ⟨v8, rfl, hv8, hb8⟩
  obtain ⟨p8, c8, rfl⟩ := hv8.vshape
  have HK8 := Lib.hid (Keep.push (c := cS (fun _ => True) (.slice p8 shelfL.length c8) shelfL) (HK7.out.below hb8) (hv8.weaken fun _ _ => trivial))
  clear hv8 hb8 HK7
  have hN := mvs_newU w8 backV 36 w8.heap.size rfl (by decide) (by
    intro r hr
    simp only [backV, List.mem_cons, List.not_mem_nil, or_false] at hr
    rcases hr with rfl <;> exact ⟨small64 _ (by decide), small64 _ (by decide), by decide⟩)
  have HK9 := Lib.hid (HK8.out.alloc (.cells (flat (fun i => mvCells (mv backV i)) backV.length).toArray 36))
  have hA := apply_any namesL shelfL backV false _ _ _ _ _ _ _ HK9.out.2.1 HK9.out.1 hN
  rw [begun_u5] at hA
  have HA := Lib.hid hA
  clear hN HK8 hA
  go_wp2_with fail
  refine HA.out.mono ?_
  rintro e w9 ⟨v9, rfl, hv9, hb9⟩
  obtain ⟨⟨p9, c9⟩, rfl⟩ := hv9.shape
  have HK10 := Lib.hid (show Keep [cRu (fun _ => True) (.slice p4 wantV.length c4) wantV, cB w] w9 from (HK9.out.below hb9).2.2)
  clear hv9 hb9 HK9 HA
  go_wp2_with fail
  refine (movesV_any _).mono ?_
  rintro e w10 ⟨v10, rfl, hv10, hb10⟩
  obtain ⟨⟨p10, c10⟩, rfl⟩ := hv10.shape
  have HK11 := Lib.hid (HK10.out.below hb10)
  have hA := updCheck_any movesV _ _ w10 hv10
  rw [begun_u3] at hA
  have HA := Lib.hid hA
  clear hv10 hb10 HK10 hA
  go_wp2_with fail
  refine HA.out.mono ?_
  rintro e w11 ⟨rfl, hb11⟩
  have HK12 := Lib.hid (HK11.out.below hb11)
  clear hb11 HK11 HA
  have hN := refs_new w11 wantV 40 w11.heap.size rfl (by decide) (by
    intro r hr
    simp only [wantV, List.mem_cons, List.not_mem_nil, or_false] at hr
    rcases hr with rfl | rfl | rfl <;> exact ⟨small64 _ (by decide), by decide⟩)
  have HK13 := Lib.hid (HK12.out.alloc (.cells (flat (fun i => [.string (rf wantV i).name, .int .i64 (rf wantV i).id]) wantV.length).toArray 40))
  have hA := sameRefs_any wantV wantV _ _ _ _ _ HK13.out.1 hN
  rw [(sameRefs_iff wantV wantV).2 rfl] at hA
  have HA := Lib.hid hA
  clear hN HK12 hA
  go_wp2_with fail
  refine HA.out.mono ?_
  rintro e w12 ⟨rfl, hb12⟩
  have HB := Lib.hid (below_next HK13.out.2.1 hb12)
  clear hb12 HK13 HA
  go_wp2_with fail
  go_ret
  exact ⟨rfl, HB.out⟩

set_option maxRecDepth 100000 in
set_option maxHeartbeats 8000000 in
theorem updateTells_any (l : List Rf) (objs : List Obj) (us : List Mv) (force : Bool) (lv ov uv : Value) (S S2 S3 : Nat → Prop) (w : World) (h : RefsV S w lv l) (ho : StoreV S2 w ov objs) (hu : MvsV S3 w uv us) :
    Calls Tryz.prog 3 #[lv, ov, uv, .bool force] w fun e w' => e = .returned (.bool true) ∧ Below w.heap.size w w' := by
  have HK0 := Lib.hid (show Keep [cB w, cRu S lv l, cS S2 ov objs, cMu S3 uv us] w from ⟨Below.refl _ _, h, ho, hu, trivial⟩)
  have HI := Lib.hid (refsAre_ok (applyR l objs us force) (applyE l objs us force) (fun h => by unfold applyR; rw [if_neg h]))
  have HTx := Lib.hid (fun x v (hx : MvsV S3 x v us) => show Calls Tryz.prog 11 #[v] x fun e w' => e = .returned (.tuple #[.string (textU us), .int .i64 (checkMvs us)]) ∧ Below x.heap.size x w' from text_any us v _ x hx)
  have HTo := Lib.hid (fun (h0 : checkMvs us = 0) x v (hx : MvsV S3 x v us) => show Calls Tryz.prog 13 #[v] x fun e w' => e = .returned (.string (textU us)) ∧ Below x.heap.size x w' by
    unfold textU; rw [if_pos h0]; exact textOf_any us v _ x hx (mvs_ok.1 h0))
  have HT0 := Lib.hid (fun (h0 : checkMvs us ≠ 0) => show textU us = ByteArray.empty by unfold textU; rw [if_neg h0])
  have HCh := Lib.hid (fun x v (hx : MvsV S3 x v us) => updCheck_any us v _ x hx)
  have HCr := Lib.hid (fun x v (hx : MvsV S3 x v us) => checkUpdates_any us v _ x hx)
  have HAp := Lib.hid (fun x v1 v2 v3 (h1 : RefsV S x v1 l) (h2 : StoreV S2 x v2 objs) (h3 : MvsV S3 x v3 us) => apply_any l objs us force v1 v2 v3 _ _ _ x h1 h2 h3)
  have HAo := Lib.hid (fun x v1 v2 v3 (h1 : RefsV S x v1 l) (h2 : StoreV S2 x v2 objs) (h3 : MvsV S3 x v3 us) => applyOf_any l objs us force v1 v2 v3 _ _ _ x h1 h2 h3)
  obtain ⟨⟨la, lc⟩, rfl⟩ := h.shape
  obtain ⟨oa, oc, rfl⟩ := ho.vshape
  obtain ⟨⟨ua, uc⟩, rfl⟩ := hu.shape
  clear h ho hu
  generalize applyR l objs us force = R at *
  generalize applyE l objs us force = E at *
  generalize textU us = T at *
  by_cases hc : checkMvs us = 0
  case pos =>
    have hq : (checkMvs us == 0) = true := by simpa using hc
    have hqq : (checkMvs us == checkMvs us) = true := by simp
    have Hc := Lib.hid hc
    clear hc
    go_enter Tryz.func3, Tryz.ntmps3
    go_wp2_with fail
    refine (HAp.out w _ _ _ HK0.out.2.1 HK0.out.2.2.1 HK0.out.2.2.2.1).mono ?_
    rintro e w1 ⟨v1, rfl, hv1, hb1⟩
    obtain ⟨⟨p1, c1⟩, rfl⟩ := hv1.shape
    have HK1 := Lib.hid (Keep.push (c := cRu (fun _ => True) (.slice p1 R.length c1) R) (HK0.out.below hb1) (hv1.weaken fun _ _ => trivial))
    clear hv1 hb1 HK0 HAp
    go_wp2_with fail
    refine (HTx.out w1 _ HK1.out.2.2.2.2.1).mono ?_
    rintro e w2 ⟨rfl, hb2⟩
    have HK2 := Lib.hid (HK1.out.below hb2)
    clear hb2 HK1 HTx
    go_wp2_with fail
    refine (HCr.out w2 _ HK2.out.2.2.2.2.1).mono ?_
    rintro e w3 ⟨rfl, hb3⟩
    have HK3 := Lib.hid (HK2.out.below hb3)
    clear hb3 HK2 HCr
    go_wp2_with fail
    refine (HTo.out Hc.out w3 _ HK3.out.2.2.2.2.1).mono ?_
    rintro e w4 ⟨rfl, hb4⟩
    have HK4 := Lib.hid (HK3.out.below hb4)
    clear hb4 HK3 HTo HT0
    go_wp2_with fail
    refine (HAo.out w4 _ _ _ HK4.out.2.2.1 HK4.out.2.2.2.1 HK4.out.2.2.2.2.1).mono ?_
    rintro e w5 ⟨v5, rfl, hv5, hb5⟩
    obtain ⟨⟨p5, c5⟩, rfl⟩ := hv5.shape
    have HK5 := Lib.hid (Keep.push (c := cRu (fun _ => True) (.slice p5 R.length c5) R) (HK4.out.below hb5) hv5)
    clear hv5 hb5 HK4 HAo
    go_wp2_with fail
    refine (updateBegun_any _).mono ?_
    rintro e w6 ⟨rfl, hb6⟩
    have HK6 := Lib.hid (HK5.out.below hb6)
    clear hb6 HK5
    go_wp2_with fail
    refine (HCh.out w6 _ HK6.out.2.2.2.2.2.1).mono ?_
    rintro e w7 ⟨rfl, hb7⟩
    have HK7 := Lib.hid (HK6.out.below hb7)
    clear hb7 HK6 HCh
    have hI := refsAre_any R R E E _ _ _ _ w7 HK7.out.2.1 HK7.out.1
    rw [HI.out] at hI
    have HI2 := Lib.hid hI
    clear hI
    go_wp2_with fail
    refine HI2.out.mono ?_
    rintro e w8 ⟨rfl, hb8⟩
    have HB := Lib.hid (below_next HK7.out.2.2.1 hb8)
    clear hb8 HK7 HI2
    go_wp2_with fail
    go_ret
    exact ⟨rfl, HB.out⟩
  case neg =>
    have hq : (checkMvs us == 0) = false := by simpa using hc
    have hqq : (checkMvs us == checkMvs us) = true := by simp
    have Hc := Lib.hid hc
    clear hc
    go_enter Tryz.func3, Tryz.ntmps3
    go_wp2_with fail
    refine (HAp.out w _ _ _ HK0.out.2.1 HK0.out.2.2.1 HK0.out.2.2.2.1).mono ?_
    rintro e w1 ⟨v1, rfl, hv1, hb1⟩
    obtain ⟨⟨p1, c1⟩, rfl⟩ := hv1.shape
    have HK1 := Lib.hid (Keep.push (c := cRu (fun _ => True) (.slice p1 R.length c1) R) (HK0.out.below hb1) (hv1.weaken fun _ _ => trivial))
    clear hv1 hb1 HK0 HAp
    go_wp2_with fail
    refine (HTx.out w1 _ HK1.out.2.2.2.2.1).mono ?_
    rintro e w2 ⟨rfl, hb2⟩
    have HK2 := Lib.hid (HK1.out.below hb2)
    clear hb2 HK1 HTx
    go_wp2_with fail
    refine (HCr.out w2 _ HK2.out.2.2.2.2.1).mono ?_
    rintro e w3 ⟨rfl, hb3⟩
    have HK3 := Lib.hid (HK2.out.below hb3)
    clear hb3 HK2 HCr
    go_wp2_with fail
    have ht := HT0.out Hc.out
    have HK4 := HK3
    obtain ⟨w4, rfl⟩ : ∃ w4, w4 = w3 := ⟨_, rfl⟩
    clear HK3 HTo HT0
    subst ht
    refine (HAo.out w4 _ _ _ HK4.out.2.2.1 HK4.out.2.2.2.1 HK4.out.2.2.2.2.1).mono ?_
    rintro e w5 ⟨v5, rfl, hv5, hb5⟩
    obtain ⟨⟨p5, c5⟩, rfl⟩ := hv5.shape
    have HK5 := Lib.hid (Keep.push (c := cRu (fun _ => True) (.slice p5 R.length c5) R) (HK4.out.below hb5) hv5)
    clear hv5 hb5 HK4 HAo
    go_wp2_with fail
    refine (updateBegun_any _).mono ?_
    rintro e w6 ⟨rfl, hb6⟩
    have HK6 := Lib.hid (HK5.out.below hb6)
    clear hb6 HK5
    go_wp2_with fail
    refine (HCh.out w6 _ HK6.out.2.2.2.2.2.1).mono ?_
    rintro e w7 ⟨rfl, hb7⟩
    have HK7 := Lib.hid (HK6.out.below hb7)
    clear hb7 HK6 HCh
    have hI := refsAre_any R R E E _ _ _ _ w7 HK7.out.2.1 HK7.out.1
    rw [HI.out] at hI
    have HI2 := Lib.hid hI
    clear hI
    go_wp2_with fail
    refine HI2.out.mono ?_
    rintro e w8 ⟨rfl, hb8⟩
    have HB := Lib.hid (below_next HK7.out.2.2.1 hb8)
    clear hb8 HK7 HI2
    go_wp2_with fail
    go_ret
    exact ⟨rfl, HB.out⟩
end Go.Proofs.YtkaoldnhooojiaaGreatDoor
