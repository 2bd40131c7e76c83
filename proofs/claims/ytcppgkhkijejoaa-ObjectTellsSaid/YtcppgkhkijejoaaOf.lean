/- Walks: the reference's ObjectOf. -/
import Derived.Test.YtcppgkhkijejoaaApart
import Derived.Deep.DeepCutAuto
import Derived.RegionTactic
import Derived.BigRegion
import Derived.StillTailTactics
import Derived.Deep.AppendLies
import Derived.Deep.RegionLaw
namespace Go.Proofs.Ytcppgkhkijejoaa
open Go.RowKit
set_option linter.unusedVariables false
set_option linter.unusedSimpArgs false

theorem index_whole {P : Program} (t : TypeId) (h : P.underlying t = some .string) {s : ByteArray} (i : Int) (hi : 0 ≤ i ∧ i < s.size) (w : World) :
    (Instr.index t (.string s) (.int .i64 i)).run P w = .ok (.int .u8 (byt s i.toNat)) w := by
  rw [run_index_string w t _ _ i h, dif_pos (by omega), byt_get]

/-- in the midst of the links: i have been read -/
def OfMid (s : ByteArray) (g : Nat) (w wr : World) (i : Nat) (lv : Value) : Prop :=
  wr.heap[w.heap.size]? = some (.cells #[.int .i64 0, .int .i64 0, .slice none 0 0, .string ⟨#[]⟩] 24 (0, 0)) ∧
  wr.heap[g]? = some (.cells #[.int .i64 (byt s 0), .int .i64 (byt s 1), lv, .string (sub s (4 + rawN s) (rawM s))] 24 (0, 0)) ∧
  wr.ownsRow (g + 1) 3 1 lv i ((rawTo s i).map (Value.int .i64)) ∧ Below w.heap.size w wr

theorem of_next {s : ByteArray} {g i g' cap : Nat} {w wr w5 : World} {lv : Value} {o : Go.Obj} (hM : OfMid s g w wr i lv) (hg : w.heap.size + 1 ≤ g)
    (hown : w5.ownsRow (g + 1) 3 1 (.slice (some ⟨g', 0, none⟩) (i + 1) cap) (i + 1) ((rawTo s i).map (Value.int .i64) ++ [.int .i64 (byt s (3 + i))]))
    (hgrow : (wr.drew.alloc o).grownBy w5 lv.ownBlock) (h5 : w5.heap[g]? = some (.cells #[.int .i64 (byt s 0), .int .i64 (byt s 1), lv, .string (sub s (4 + rawN s) (rawM s))] 24 (0, 0))) :
    OfMid s g w (w5.setCell ⟨g, 2, none⟩ (.slice (some ⟨g', 0, none⟩) (i + 1) cap)) (i + 1) (.slice (some ⟨g', 0, none⟩) (i + 1) cap) := by
  obtain ⟨m1, m2, m3, m4⟩ := hM
  have hlv : ∀ k, lv.ownBlock = some k → g + 1 ≤ k := fun k hk => (m3.lt k hk).1
  have hz := m4.size
  have hlt := lt_of_block m1
  have hne := own_ne hown h5 (by decide)
  refine ⟨?_, block_setCell (j := 2) h5 _, ?_, ?_⟩
  · exact (Below.heap_setCell w5 ⟨g, 2, none⟩ _ w.heap.size (by simp; omega)).trans
      ((hgrow.block w.heap.size (by simp; omega) (fun e => by have := hlv _ e.symm; omega)).trans ((Below.heap_alloc wr.drew o _ hlt).trans m1))
  · rw [rawTo_next, List.map_append]
    exact ownsRow_setCell_other hown hne _
  · refine Below.setCell ?_ (by simp; omega) _
    exact Below.grown (m4.drew.alloc m4.size o) hgrow (by simp; omega) (fun k hk => by have := hlv k hk; omega)

theorem of_end {s : ByteArray} {g : Nat} {w wr : World} {lv : Value} {S : Nat → Prop} (hM : OfMid s g w wr (rawN s) lv) (hok : rawOk s) (hS : ∀ b, g + 1 ≤ b → S b) : ObjIs S wr (rawObj s) lv := by
  obtain ⟨m1, m2, m3, m4⟩ := hM
  have hn := rawN_le s
  have hm := rawM_le s
  have hb0 := byt_range s 0
  have hb1 := byt_range s 1
  refine ⟨⟨?_, rawTo_i64 s _⟩, by unfold I64; simp only [rawObj]; omega, by unfold I64; simp only [rawObj]; omega, ?_⟩
  · show Sl _ _ _ 1 8 (rawTo s (rawN s)).length _
    rw [rawTo_length]
    refine own_sl m3 (fun k hk => hS k (m3.lt k hk).1) (by omega) (fun i hi j u hu => ?_)
    match j, hu with
    | 0, hu =>
      simp only [List.getElem?_cons_zero, Option.some.injEq] at hu
      subst hu
      rw [Nat.mul_one, Nat.add_zero, List.getElem?_map, List.getElem?_eq_getElem (by rw [rawTo_length]; exact hi), Option.map_some]
      show _ = some (Value.int .i64 (nth (rawTo s (rawN s)) i))
      rw [nth_lt (by rw [rawTo_length]; exact hi)]
  · show (sub s (4 + rawN s) (rawM s)).size ≤ _
    rw [sub_size hok.2.2]; omega

set_option maxRecDepth 100000 in
set_option maxHeartbeats 4000000 in
theorem objectOf_any (s : ByteArray) (w : World) (hs : s.size ≤ 140737488351232) : Calls Try.prog 23 #[.string s] w (DecIs s w) := by
  have hN := rawN_le s
  have hM := rawM_le s
  have h2 : byt s 2 = (rawN s : Int) := (byt_nat s 2).symm
  have hm2 : byt s (3 + rawN s) = (rawM s : Int) := (byt_nat s _).symm
  have hw2 : IntKind.i64.wrap (rawN s : Int) = (rawN s : Int) := wrap_in (by omega)
  have hw3 : IntKind.i64.wrap (rawM s : Int) = (rawM s : Int) := wrap_in (by omega)
  have Hno := Lib.hid (fun (h : ¬ rawOk s) => show decE s = 5 by unfold decE; rw [if_neg h])
  have Hyes := Lib.hid (fun (h : rawOk s) => show decE s = checkObj (rawObj s) by unfold decE; rw [if_pos h])
  obtain ⟨R, hR, hR1, hx0, hx1, hx2, hx3, hxf, hxb⟩ := cls_var4 w (.int .i64 0) (.int .i64 0) (.slice none 0 0) (.string ⟨#[]⟩) 24
  have hRn := hR.next
  have hRb := hR.below
  have hRa := hR.alloc
  have hRd := hR.drewN
  go_enter Try.func23, Try.ntmps23
  go_upto_region 1 with fail
  go_cut [38] (fun s38 wx => s38 = .bool (decide (¬ rawOk s)) ∧ ∃ x, x = wx ∧ In R x)
  case first =>
    have hmk : decide (¬ rawOk s) = (decide ((s.size : Int) < 3) || decide ((s.size : Int) < 4 + (rawN s : Int)) || decide ((s.size : Int) < 4 + (rawN s : Int) + (rawM s : Int))) := by
      rw [Bool.eq_iff_iff]; simp only [Bool.or_eq_true, decide_eq_true_eq]; unfold rawOk; omega
    have Hmk := Lib.hid hmk; clear hmk
    cases h3 : decide ((s.size : Int) < 3)
    · have h3' : 3 ≤ s.size := by simp at h3; omega
      have hix := fun w => index_whole (P := Try.prog) 9 Try.underlying9 (s := s) 2 (by omega) w
      rw [show (2 : Int).toNat = 2 from rfl, h2] at hix
      have hs1 : IntKind.i64.wrap (4 + (rawN s : Int)) = 4 + (rawN s : Int) := wrap_in (by omega)
      clear h2
      cases h4 : decide ((s.size : Int) < 4 + (rawN s : Int))
      · have h4' : 4 + rawN s ≤ s.size := by simp at h4; omega
        have hiy := fun w => index_whole (P := Try.prog) 9 Try.underlying9 (s := s) (3 + (rawN s : Int)) (by omega) w
        rw [show (3 + (rawN s : Int)).toNat = 3 + rawN s by omega, hm2] at hiy
        have hs2 : IntKind.i64.wrap (3 + (rawN s : Int)) = 3 + (rawN s : Int) := wrap_in (by omega)
        have hs3 : IntKind.i64.wrap (4 + (rawN s : Int) + (rawM s : Int)) = 4 + (rawN s : Int) + (rawM s : Int) := wrap_in (by omega)
        clear hm2
        generalize hb5 : decide ((s.size : Int) < 4 + (rawN s : Int) + (rawM s : Int)) = b5
        have Hb5 := Lib.hid hb5; clear hb5
        go_quiet (fail)
        go_wp2_with fail
        go_meet
        exact ⟨by rw [Hmk.out, h3, h4]; simp, _, rfl, hRd _ _ hR1⟩
      · clear hm2
        go_quiet (fail)
        go_wp2_with fail
        go_meet
        exact ⟨by rw [Hmk.out, h3, h4]; rfl, _, rfl, hRd _ _ hR1⟩
    · clear h2 hm2
      go_quiet (fail)
      go_wp2_with fail
      go_meet
      exact ⟨by rw [Hmk.out, h3]; rfl, _, rfl, hRd _ _ hR1⟩
  case rest =>
    obtain ⟨rfl, wx, rfl, hR2⟩ := hcut
    clear hR1
    by_cases hok : rawOk s
    · have hd : decide (¬ rawOk s) = false := by simp [hok]
      rw [hd]
      clear hd
      have Hd := Lib.hid (Hyes.out hok)
      have hix := fun w => index_whole (P := Try.prog) 9 Try.underlying9 (s := s) 2 (by have := hok.1; omega) w
      rw [show (2 : Int).toNat = 2 from rfl, h2] at hix
      have hiy := fun w => index_whole (P := Try.prog) 9 Try.underlying9 (s := s) (3 + (rawN s : Int)) (by have := hok.2.1; omega) w
      rw [show (3 + (rawN s : Int)).toNat = 3 + rawN s by omega, hm2] at hiy
      have hi0 := fun w => index_whole (P := Try.prog) 9 Try.underlying9 (s := s) 0 (by have := hok.1; omega) w
      have hi1 := fun w => index_whole (P := Try.prog) 9 Try.underlying9 (s := s) 1 (by have := hok.1; omega) w
      rw [show (0 : Int).toNat = 0 from rfl] at hi0
      rw [show (1 : Int).toNat = 1 from rfl] at hi1
      have hw4 : IntKind.i64.wrap (byt s 0) = byt s 0 := wrap_in (by have := byt_range s 0; omega)
      have hw5 : IntKind.i64.wrap (byt s 1) = byt s 1 := wrap_in (by have := byt_range s 1; omega)
      have hs1 : IntKind.i64.wrap (4 + (rawN s : Int)) = 4 + (rawN s : Int) := wrap_in (by omega)
      have hs2 : IntKind.i64.wrap (3 + (rawN s : Int)) = 3 + (rawN s : Int) := wrap_in (by omega)
      have hs3 : IntKind.i64.wrap (4 + (rawN s : Int) + (rawM s : Int)) = 4 + (rawN s : Int) + (rawM s : Int) := wrap_in (by omega)
      have hb1 : (0 : Int) ≤ 4 + (rawN s : Int) := by omega
      have hb2 : 4 + (rawN s : Int) ≤ 4 + (rawN s : Int) + (rawM s : Int) := by omega
      have hb3 : 4 + (rawN s : Int) + (rawM s : Int) ≤ (s.size : Int) := by have := hok.2.2; omega
      have Hok := Lib.hid hok; clear hok h2 hm2
      go_upto_region 5 with fail
      go_cut [7] (fun s7 wx => ∃ (g : Nat) (x : World), s7 = .pointer (some ⟨g, 0, none⟩) ∧ x = wx ∧ In R x ∧ w.heap.size + 1 ≤ g ∧ x.heap[g]? = some (.cells #[.int .i64 (byt s 0), .int .i64 (byt s 1), .slice none 0 0, .string (sub s (4 + rawN s) (rawM s))] 24 (0, 0)))
      case first =>
        go_region
        go_wp2_with fail
        go_meet
        exact ⟨_, _, rfl, rfl, hR.drew _ (hRa _ _ hR2), lt_of_block (hxb _ hR2), heap_alloc_new wx _⟩
      case rest =>
        obtain ⟨g, x, rfl, rfl, hR3, hgz, hg⟩ := hcut
        obtain ⟨i0, hi0', hz0, hz1, hz2⟩ := info_parts Try.infoInt
        have HMid := Lib.hid (show OfMid s g w x 0 (.slice none 0 0) from ⟨hxb _ hR3, hg, by simpa [rawTo] using World.ownsRow_nil x (g + 1) 3 1, hRb _ hR3⟩)
        clear hR2 hR3 hg hx0 hx1 hx2 hx3 hxf hi0 hi1 hw4 hw5 hs1 hs2 hs3 hb1 hb2 hb3 hix hiy hRn hRa hRd
        go_wp2_with fail
        go_loopw [8] (fun m wr => ∃ (i : Nat) (lv : Value), i ≤ rawN s ∧ m = .int .i64 (i : Int) ∧ Hid (OfMid s g w wr i lv)) (fun m _ => (rawN s - (intOf m).toNat))
        case atStart => exact ⟨0, _, by omega, rfl, HMid⟩
        case round =>
          obtain ⟨i, lv, hin, rfl, HMi⟩ := hrel
          clear HMid
          by_cases hlt : i < rawN s
          · have hii := fun w => index_whole (P := Try.prog) 9 Try.underlying9 (s := s) (3 + (i : Int)) (by have := Hok.out.2.1; omega) w
            rw [show (3 + (i : Int)).toNat = 3 + i by omega] at hii
            have hwi : IntKind.i64.wrap (3 + (i : Int)) = 3 + (i : Int) := wrap_in (by omega)
            have hwb : IntKind.i64.wrap (byt s (3 + i)) = byt s (3 + i) := wrap_in (by have := byt_range s (3 + i); omega)
            have hc2 := block_cell (j := 2) HMi.out.2.1 rfl
            have hne := own_ne HMi.out.2.2.1 HMi.out.2.1 (by decide)
            have hib : g < wr.heap.size := lt_of_block HMi.out.2.1
            have hown4 : wr.drew.ownsRow (g + 1) 3 1 lv i ((rawTo s i).map (Value.int .i64)) := HMi.out.2.2.1
            have hB4 : wr.drew.heap[g]? = some (.cells #[.int .i64 (byt s 0), .int .i64 (byt s 1), lv, .string (sub s (4 + rawN s) (rawM s))] 24 (0, 0)) := HMi.out.2.1
            have hS4a := fun o => (World.cell?_alloc_lt (w := wr.drew) (o := o) (a := ⟨g, 2, none⟩) hib).trans hc2
            go_wp2_with fail
            go_region_law (refine step_append_lies _ (by rfl) _ _ _ (by rfl) (g + 1) 3 i0 _ 1 8 Try.underlying22 hi0' hz0 hz1 hz2 rfl (by omega) lv i _ (by rfl) (hown4.alloc _) ⟨wr.heap.size, 0, none⟩ 1 1 [.int .i64 (byt s (3 + i))] (by rfl) (by rfl) (World.news_of_block (cs := #[.int .i64 (byt s (3 + i))]) (t := 3) (fr := (0, 0)) (heap_alloc_new wr.drew _)) (by simp [Value.oneCell']) (by omega) (by unfold maxLen; omega) (by omega) (by simp; omega) (wr.heap.size + 1) (by simp) ?_; intro g' cap' w5 hown5 hgrow5 hat5 hlt5; have h5 := (hgrow5.block g (by simp; omega) (fun e => hne e.symm)).trans ((Below.heap_alloc _ _ _ hib).trans hB4); have hS5 := block_cell (j := 2) h5 rfl; have hF5 := block_free (j := 2) h5)
            all_goals
              have HN := Lib.hid (of_next HMi.out hgz hown5 hgrow5 h5)
              clear hown5 hgrow5 h5 hS5 hF5 hS4a hB4 hown4 hat5
              go_wp2
              go_roundw
              case rel => exact ⟨i + 1, _, by omega, by go_num, HN⟩
              case measure => simp [intOf]; omega
          · obtain rfl : i = rawN s := by omega
            have HE := Lib.hid (of_end (S := fun b => w.heap.size ≤ b) HMi.out Hok.out (fun b hb => by omega))
            obtain ⟨aa, cc, hlv⟩ := own_shape HMi.out.2.2.1
            subst hlv
            have c0 := block_cell (j := 0) HMi.out.2.1 rfl
            have c1 := block_cell (j := 1) HMi.out.2.1 rfl
            have c2 := block_cell (j := 2) HMi.out.2.1 rfl
            have c3 := block_cell (j := 3) HMi.out.2.1 rfl
            go_wp2_with fail
            refine (checkObject_any (rawObj s) _ _ _ HE.out).mono ?_
            rintro e w6 ⟨rfl, hb6⟩
            have hq6 := (hb6.block _ (lt_of_block HMi.out.1)).trans HMi.out.1
            have hg6 := (hb6.block _ (lt_of_block HMi.out.2.1)).trans HMi.out.2.1
            have hbw := below_next HMi.out.2.2.2 hb6
            have HO6 := Lib.hid (HE.out.below hb6)
            have HO := Lib.hid (of_end (S := fun b => w.heap.size + 1 ≤ b) HMi.out Hok.out (fun b hb => by omega))
            have HO6' := Lib.hid (HO.out.below hb6)
            clear c0 c1 c2 c3 hb6
            have q0 := block_cell (j := 0) hq6 rfl
            have q1 := block_cell (j := 1) hq6 rfl
            have q2 := block_cell (j := 2) hq6 rfl
            have q3 := block_cell (j := 3) hq6 rfl
            have r0 := block_free (j := 0) hq6
            have r1 := block_free (j := 1) hq6
            have r2 := block_free (j := 2) hq6
            have r3 := block_free (j := 3) hq6
            by_cases hz : checkObj (rawObj s) = 0
            · have hz' : (checkObj (rawObj s) != 0) = false := by simpa using hz
              have Hd0 := Lib.hid (show decE s = 0 by rw [Hd.out]; exact hz)
              have Hz := Lib.hid hz; clear hz
              have d0 := block_cell (j := 0) hg6 rfl
              have d1 := block_cell (j := 1) hg6 rfl
              have d2 := block_cell (j := 2) hg6 rfl
              have d3 := block_cell (j := 3) hg6 rfl
              go_wp2
              have hs4 := set4_is (v0 := .int .i64 (byt s 0)) (v1 := .int .i64 (byt s 1)) (v2 := .slice aa (rawN s) cc) (v3 := .string (sub s (4 + rawN s) (rawM s))) hq6
              have hu4 := set4_upd w.heap.size (.int .i64 (byt s 0)) (.int .i64 (byt s 1)) (.slice aa (rawN s) cc) (.string (sub s (4 + rawN s) (rawM s))) w6
              refine bodyPost_ret (w := set4 w.heap.size (.int .i64 (byt s 0)) (.int .i64 (byt s 1)) (.slice aa (rawN s) cc) (.string (sub s (4 + rawN s) (rawM s))) w6)
                (v := .tuple #[.agg #[.int .i64 (byt s 0), .int .i64 (byt s 1), .slice aa (rawN s) cc, .string (sub s (4 + rawN s) (rawM s))], .int .i64 (4 + (rawN s : Int) + (rawM s : Int)), .int .i64 0]) ?_ rfl ?_
              · have e0 := block_cell (j := 0) hs4 rfl
                have e1 := block_cell (j := 1) hs4 rfl
                have e2 := block_cell (j := 2) hs4 rfl
                have e3 := block_cell (j := 3) hs4 rfl
                clear hs4 hu4 hq6 hg6 hbw d0 d1 d2 d3
                generalize set4 w.heap.size (.int .i64 (byt s 0)) (.int .i64 (byt s 1)) (.slice aa (rawN s) cc) (.string (sub s (4 + rawN s) (rawM s))) w6 = wf at *
                simp [results, Try.results23, go_sem, *]
                exact Hz.out
              · have ho : decO s = rawObj s := by unfold decO; rw [Hd0.out]; rfl
                have hn : decN s = 4 + (rawN s : Int) + (rawM s : Int) := by unfold decN; rw [Hd0.out, if_pos rfl]; unfold rawLen; omega
                unfold DecIs
                rw [ho, hn, Hd0.out]
                exact ⟨⟨_, rfl, (HO6'.out.upd hu4 (fun b hb h => by omega)).weaken (fun b hb => by omega)⟩, hbw.trans (hu4.below hbw.size (fun b hb => by omega))⟩
            · have hz' : (checkObj (rawObj s) != 0) = true := by simpa using hz
              have Hz := Lib.hid hz; clear hz
              go_wp2
              have hs4 := set4_is (v0 := .int .i64 0) (v1 := .int .i64 0) (v2 := .slice none 0 0) (v3 := .string ⟨#[]⟩) hq6
              have hu4 := set4_upd w.heap.size (.int .i64 0) (.int .i64 0) (.slice none 0 0) (.string ⟨#[]⟩) w6
              refine bodyPost_ret (w := set4 w.heap.size (.int .i64 0) (.int .i64 0) (.slice none 0 0) (.string ⟨#[]⟩) w6) (v := .tuple #[.agg #[.int .i64 0, .int .i64 0, .slice none 0 0, .string ⟨#[]⟩], .int .i64 0, .int .i64 (checkObj (rawObj s))]) ?_ rfl ?_
              · have e0 := block_cell (j := 0) hs4 rfl
                have e1 := block_cell (j := 1) hs4 rfl
                have e2 := block_cell (j := 2) hs4 rfl
                have e3 := block_cell (j := 3) hs4 rfl
                clear hs4 hu4 hq6 hg6 hbw
                generalize set4 w.heap.size (.int .i64 0) (.int .i64 0) (.slice none 0 0) (.string ⟨#[]⟩) w6 = wf at *
                simp [results, Try.results23, go_sem, *]
              · have ho : decO s = obj0 := by unfold decO; rw [Hd.out, if_neg Hz.out]
                have hn : decN s = 0 := by unfold decN; rw [Hd.out, if_neg Hz.out]
                unfold DecIs
                rw [ho, hn, Hd.out]
                exact ⟨⟨_, rfl, obj0_is _ _⟩, hbw.trans (hu4.below hbw.size (fun b hb => by omega))⟩
    · have hd : decide (¬ rawOk s) = true := by simp [hok]
      rw [hd]
      clear hd hw2 hw3 h2 hm2
      have Hd := Lib.hid (Hno.out hok)
      have hq := hxb _ hR2
      have hbw := hRb _ hR2
      go_wp2
      have hs4 := set4_is (v0 := .int .i64 0) (v1 := .int .i64 0) (v2 := .slice none 0 0) (v3 := .string ⟨#[]⟩) hq
      have hu4 := set4_upd w.heap.size (.int .i64 0) (.int .i64 0) (.slice none 0 0) (.string ⟨#[]⟩) wx
      refine bodyPost_ret (w := set4 w.heap.size (.int .i64 0) (.int .i64 0) (.slice none 0 0) (.string ⟨#[]⟩) wx) (v := .tuple #[.agg #[.int .i64 0, .int .i64 0, .slice none 0 0, .string ⟨#[]⟩], .int .i64 0, .int .i64 5]) ?_ rfl ?_
      · have e0 := block_cell (j := 0) hs4 rfl
        have e1 := block_cell (j := 1) hs4 rfl
        have e2 := block_cell (j := 2) hs4 rfl
        have e3 := block_cell (j := 3) hs4 rfl
        clear hs4 hu4 hq hbw
        generalize set4 w.heap.size (.int .i64 0) (.int .i64 0) (.slice none 0 0) (.string ⟨#[]⟩) wx = wf at *
        simp [results, Try.results23, go_sem, *]
      · have ho : decO s = obj0 := by unfold decO; rw [Hd.out]; rfl
        have hn : decN s = 0 := by unfold decN; rw [Hd.out]; rfl
        unfold DecIs
        rw [ho, hn, Hd.out]
        exact ⟨⟨_, rfl, obj0_is _ _⟩, hbw.trans (hu4.below hbw.size (fun b hb => by omega))⟩
end Go.Proofs.Ytcppgkhkijejoaa
