/- Walks: the law StoreTells. -/
import Derived.Test.YtcppgkhkijejoaaRefB
import Derived.Test.YtcppgkhkijejoaaStoreLaw
import Derived.Deep.DeepCutAuto
namespace Go.Proofs.Ytcppgkhkijejoaa
open Go.RowKit
set_option linter.unusedVariables false
set_option linter.unusedSimpArgs false

set_option maxRecDepth 100000 in
set_option maxHeartbeats 4000000 in
theorem storeTells_any (l more : List Obj) (id : Int) (lv mv : Value) (S S' : Nat → Prop) (w : World) (h : StoreV S w lv l) (hm : StoreV S' w mv more) (hid : I64 id) :
    Calls Try.prog 13 #[lv, mv, .int .i64 id] w fun e w' => e = .returned (.bool true) ∧ Below w.heap.size w w' := by
  have HK0 := Lib.hid (show Keep [cB w, cS S lv l, cS S' mv more] w from ⟨Below.refl _ _, h, hm, trivial⟩)
  obtain ⟨la, lc, rfl⟩ := h.vshape
  obtain ⟨ma, mc, rfl⟩ := hm.vshape
  have HwE := Lib.hid (show findE l id = if checkStore l ≠ 0 then checkStore l else if isAt l id = true then 0 else 5 from rfl)
  have HwO := Lib.hid (show findO l id = if findE l id = 0 then obj l (lo l id) else obj0 from rfl)
  have Hsi := Lib.hid (show storeIsB (addL l more) (addE l more) (addE l more) (addL l more) = true from (storeIsB_same _ _).2 (by
    by_cases e : addE l more = 0
    · exact .inl e
    · exact .inr (by unfold addL; rw [if_neg e])))
  have h3 : (checkStore l = 0 ∧ isAt l id = false) ∨ (checkStore l = 0 ∧ isAt l id = true) ∨ checkStore l ≠ 0 := by
    by_cases a : checkStore l = 0
    · cases b : isAt l id
      · exact .inl ⟨a, rfl⟩
      · exact .inr (.inl ⟨a, rfl⟩)
    · exact .inr (.inr a)
  clear h hm
  go_enter Try.func13, Try.ntmps13
  go_wp2_with fail
  have hA := add_any l more _ _ _ _ w HK0.out.2.1 HK0.out.2.2.1
  refine hA.mono ?_
  rintro e w1 ⟨v1, rfl, hv1, hb1⟩
  obtain ⟨a1, c1, rfl⟩ := hv1.vshape
  have HK1 := Lib.hid (Keep.push (c := cS (fun _ => True) (.slice a1 (addL l more).length c1) (addL l more)) (HK0.out.below hb1) hv1)
  clear hv1 hb1 hA HK0
  go_wp2_with fail
  have hF := storeFind_any l id _ _ w1 HK1.out.2.2.1
  refine hF.mono ?_
  rintro e w2 ⟨v2, rfl, hv2, hb2⟩
  obtain ⟨⟨p2, c2⟩, rfl⟩ := hv2.1.shape
  have HK2 := Lib.hid (Keep.push (c := cO (fun _ => True) (findO l id) (.slice p2 (findO l id).links.length c2)) (HK1.out.below hb2) hv2)
  clear hv2 hb2 hF HK1
  go_wp2_with fail
  have HK3 := Lib.hid (Keep.push (c := cH w2.heap.size (.cells #[.int .i64 (findO l id).id, .int .i64 (findO l id).kind, .slice p2 (findO l id).links.length c2, .string (findO l id).text] 24 (0, 0)))
    (HK2.out.alloc (.cells #[.int .i64 (findO l id).id, .int .i64 (findO l id).kind, .slice p2 (findO l id).links.length c2, .string (findO l id).text] 24)) (heap_alloc_new w2 _))
  clear HK2
  generalize w2.heap.size = B2 at *
  generalize w2.alloc _ = y2 at *
  have hC := checkStore_any l _ _ y2 HK3.out.2.2.2.2.1
  refine hC.mono ?_
  rintro e w3 ⟨rfl, hb3⟩
  have HK4 := Lib.hid (HK3.out.below hb3)
  clear hb3 HK3 hC
  generalize hu : checkStore l = u at *
  have Hu := Lib.hid hu
  clear hu
  have Hkeep := Lib.hid (fun (p : Option Addr) (c : Nat) (ho : ObjIs (fun _ => True) w3 (findO l id) (.slice p (findO l id).links.length c)) =>
    Keep.push (c := cO (fun _ => True) (findO l id) (.slice p (findO l id).links.length c)) (Keep.push (c := cH w3.heap.size (.cells #[.int .i64 (findO l id).id, .int .i64 (findO l id).kind, .slice p (findO l id).links.length c, .string (findO l id).text] 24 (0, 0)))
      (HK4.out.alloc (.cells #[.int .i64 (findO l id).id, .int .i64 (findO l id).kind, .slice p (findO l id).links.length c, .string (findO l id).text] 24)) (heap_alloc_new w3 _))
      (ho.below ((Below.refl _ _).alloc (Nat.le_refl _) _)))
  go_upto_if 33 with fail
  go_cut [12] (fun s12 wx => s12 = .int .i64 (findE l id) ∧ ∃ y, y = wx ∧ ∃ (p : Option Addr) (c : Nat), Hid (Keep [cO (fun _ => True) (findO l id) (.slice p (findO l id).links.length c), cH w3.heap.size (.cells #[.int .i64 (findO l id).id, .int .i64 (findO l id).kind, .slice p (findO l id).links.length c, .string (findO l id).text] 24 (0, 0)),
      cH B2 (.cells #[.int .i64 (findO l id).id, .int .i64 (findO l id).kind, .slice p2 (findO l id).links.length c2, .string (findO l id).text] 24 (0, 0)), cO (fun _ => True) (findO l id) (.slice p2 (findO l id).links.length c2),
      cS (fun _ => True) (.slice a1 (addL l more).length c1) (addL l more), cB w, cS S (.slice la l.length lc) l, cS S' (.slice ma more.length mc) more] y))
  case first =>
    rcases h3 with ⟨hz, hat⟩ | ⟨hz, hat⟩ | hz
    · subst hz
      have hAt := objectAt_any l _ _ id (w3.alloc (.cells #[.int .i64 0, .int .i64 0, .slice none 0 0, .string ⟨#[]⟩] 24)) (HK4.out.alloc _).2.2.2.2.1
      have hat0 := (checkStore_rising Hu.out).at_ id
      rw [hat] at hat0
      rw [show atOf l id = -1 from hat0] at hAt
      have HAt := Lib.hid hAt
      have HfE := Lib.hid (show findE l id = 5 by rw [HwE.out]; simp [hat])
      have HfO := Lib.hid (show findO l id = obj0 by rw [HwO.out, HfE.out]; rfl)
      have HKp := Lib.hid (Hkeep.out none 0 (by rw [HfO.out]; exact obj0_is _ _))
      clear hAt hat0 hat
      go_wp2_with fail
      refine HAt.out.mono ?_
      rintro e w4 ⟨rfl, rfl⟩
      go_wp2_with fail
      go_meet
      refine ⟨by rw [HfE.out], _, rfl, none, 0, ?_⟩
      have := HKp.out
      rw [HfO.out] at this ⊢
      exact this
    · subst hz
      have hAt := objectAt_any l _ _ id (w3.alloc (.cells #[.int .i64 0, .int .i64 0, .slice none 0 0, .string ⟨#[]⟩] 24)) (HK4.out.alloc _).2.2.2.2.1
      have hat0 := (checkStore_rising Hu.out).at_ id
      rw [hat] at hat0
      rw [show atOf l id = (lo l id : Int) from hat0] at hAt
      have HAt := Lib.hid hAt
      have hk : lo l id < l.length := (isAt_spec hat).1
      have HfE := Lib.hid (show findE l id = 0 by rw [HwE.out]; simp [hat])
      have HfO := Lib.hid (show findO l id = obj l (lo l id) by rw [HwO.out, HfE.out]; rfl)
      obtain ⟨b, off, p, c, e5, k1, k2⟩ := store_elem HK4.out.2.2.2.2.1 hk
      have HKp := Lib.hid (Hkeep.out p c (by rw [HfO.out]; exact k2))
      cases e5
      obtain ⟨k10, k11, k12, k13⟩ := k1.below ((Below.refl w3.heap.size w3).alloc (Nat.le_refl _) (.cells #[.int .i64 0, .int .i64 0, .slice none 0 0, .string ⟨#[]⟩] 24))
      clear hAt hat0 hat k2 k1
      rw [← HfO.out] at k10 k11 k12 k13
      have hi1 : (0 : Int) ≤ (lo l id : Int) := by omega
      have hi2 : (lo l id : Int) < (l.length : Int) := by omega
      have hge : ¬ ((lo l id : Int) < 0) := by omega
      go_wp2_with fail
      refine HAt.out.mono ?_
      rintro e w4 ⟨rfl, rfl⟩
      go_wp2_with fail
      go_meet
      exact ⟨by rw [HfE.out], _, rfl, p, c, HKp.out⟩
    · have hq : (u == 0) = false := by simpa using hz
      have HfE := Lib.hid (show findE l id = u by rw [HwE.out, if_pos hz])
      have HfO := Lib.hid (show findO l id = obj0 by rw [HwO.out, HfE.out, if_neg hz])
      have HKp := Lib.hid (Hkeep.out none 0 (by rw [HfO.out]; exact obj0_is _ _))
      clear hz
      go_wp2_with fail
      go_meet
      refine ⟨by rw [HfE.out], _, rfl, none, 0, ?_⟩
      have := HKp.out
      rw [HfO.out] at this ⊢
      exact this
  case rest =>
    obtain ⟨rfl, y4, rfl, p4, c4, HK5⟩ := hcut
    clear Hkeep HK4 h3
    generalize w3.heap.size = B3 at *
    have hA := addOf_any l more _ _ _ _ y4 HK5.out.2.2.2.2.2.2.1 HK5.out.2.2.2.2.2.2.2.1
    go_wp2_with fail
    refine hA.mono ?_
    rintro e w5 ⟨v5, rfl, hv5, hb5⟩
    obtain ⟨a5, c5, rfl⟩ := hv5.vshape
    have HK6 := Lib.hid (Keep.push (c := cS (fun _ => True) (.slice a5 (addL l more).length c5) (addL l more)) (HK5.out.below hb5) hv5)
    clear hv5 hb5 hA HK5
    go_wp2_with fail
    refine (storeBegun_any _).mono ?_
    rintro e w6 ⟨rfl, hb6⟩
    have HK7 := Lib.hid (HK6.out.below hb6)
    clear hb6 HK6
    go_wp2_with fail
    have hC2 := storeCheck_any l _ _ w6 HK7.out.2.2.2.2.2.2.2.1
    rw [Hu.out] at hC2
    refine hC2.mono ?_
    rintro e w7 ⟨rfl, hb7⟩
    have HK8 := Lib.hid (HK7.out.below hb7)
    clear hb7 HK7 hC2
    have hq : (u == u) = true := by simp
    go_wp2_with fail
    have hSI := storeIs_any (addL l more) (addL l more) (addE l more) (addE l more) _ _ _ _ w7 HK8.out.2.2.2.2.2.1 HK8.out.1
    rw [Hsi.out] at hSI
    refine hSI.mono ?_
    rintro e w8 ⟨rfl, hb8⟩
    have HK9 := Lib.hid (HK8.out.below hb8)
    clear hb8 HK8 hSI
    have g0 := block_cell (j := 0) HK9.out.2.2.1 rfl
    have g1 := block_cell (j := 1) HK9.out.2.2.1 rfl
    have g2 := block_cell (j := 2) HK9.out.2.2.1 rfl
    have g3 := block_cell (j := 3) HK9.out.2.2.1 rfl
    have f0 := block_cell (j := 0) HK9.out.2.2.2.1 rfl
    have f1 := block_cell (j := 1) HK9.out.2.2.2.1 rfl
    have f2 := block_cell (j := 2) HK9.out.2.2.2.1 rfl
    have f3 := block_cell (j := 3) HK9.out.2.2.2.1 rfl
    have hq2 : (findE l id == findE l id) = true := by simp
    have hSO := sameObject_any (findO l id) (findO l id) _ _ _ _ w8 HK9.out.2.2.2.2.1 HK9.out.2.1
    rw [(sameObj_iff _ _).2 rfl] at hSO
    have HSO := Lib.hid hSO
    have HB := Lib.hid HK9.out.2.2.2.2.2.2.1
    clear hSO
    go_wp2_with fail
    refine HSO.out.mono ?_
    rintro e w9 ⟨rfl, hb9⟩
    have HB2 := Lib.hid (below_next HB.out hb9)
    clear hb9 HB HK9 g0 g1 g2 g3 f0 f1 f2 f3 HSO
    go_wp2_with fail
    go_ret
    exact ⟨rfl, HB2.out⟩
end Go.Proofs.Ytcppgkhkijejoaa
