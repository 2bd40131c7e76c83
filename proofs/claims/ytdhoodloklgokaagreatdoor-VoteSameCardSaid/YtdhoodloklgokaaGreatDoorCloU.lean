
/- CloU: updates appended, cloned: slices.Clone of updates. -/
import Derived.Test.YtdhoodloklgokaaGreatDoorRowU
import Derived.Test.YtdhoodloklgokaaGreatDoorRefB
namespace Go.Proofs.YtdhoodloklgokaaGreatDoor
open Go.RowKit
set_option linter.unusedVariables false
set_option linter.unusedSimpArgs false

theorem mvs_news {S : Nat → Prop} {w : World} {a : Option Addr} {n cap : Nat} {l : List Mv} (h : MvsV S w (.slice a n cap) l) (hn : 0 < l.length) :
    ∃ ad, a = some ad ∧ ∀ j u, (flat (fun i => mvCells (mv l i)) l.length)[j]? = some u → w.cell? (ad.add j) = some u := by
  obtain ⟨⟨a', cap', hv, h1, h2, h3, h4⟩, _⟩ := h
  cases hv
  obtain ⟨b, off, rfl, hb, hc⟩ := h4 hn
  refine ⟨_, rfl, fun j u hu => ?_⟩
  have hj : j < l.length * 3 := by
    rcases Nat.lt_or_ge j (l.length * 3) with h | h
    · exact h
    · rw [List.getElem?_eq_none (by rw [flat_length (sz := 3) fun _ _ => rfl]; exact h)] at hu; cases hu
  have hi' : j / 3 < l.length := by omega
  have hm : j % 3 < (mvCells (mv l (j / 3))).length := by show j % 3 < 3; omega
  have e := flat_get (cs := fun i => mvCells (mv l i)) (sz := 3) (n := l.length) (fun _ _ => rfl) (j / 3) hi' (j % 3) _ (List.getElem?_eq_getElem hm)
  rw [show j / 3 * 3 + j % 3 = j by omega, hu] at e
  have := hc (j / 3) hi' (j % 3) u (by show (mvCells (mv l (j / 3)))[j % 3]? = some u; rw [List.getElem?_eq_getElem hm]; exact e.symm)
  rw [show (⟨b, off, none⟩ : Addr).add j = ⟨b, off + j, none⟩ by unfold Addr.add; split <;> simp_all]
  rw [show off + j = off + j / 3 * 3 + j % 3 by omega]; exact this
theorem one_flat_mv (l : List Mv) : ∀ u ∈ flat (fun i => mvCells (mv l i)) l.length, u.oneCell' = true := one_flat fun _ _ => one_mv _

/-- 'append(v, more...)' -/
theorem appendMvs_row {B : Nat} {w : World} {v mv : Value} {l more : List Mv} {S : Nat → Prop} (ty : TypeId) (hG : OwnU B w v l) (h : MvsV S w mv more)
    (hl : (l.length + more.length) * 32 ≤ 140737488351232) (hB : B ≤ w.heap.size) :
    ∃ v' x, (Builtin.append_ #[24, 24] ty #[v, mv]).run Tryz.prog w = .ok v' x ∧ OwnU B x v' (l ++ more) ∧ Upd (fun b => v.ownBlock = some b) w x := by
  obtain ⟨i0, hi, hz0, hz1, hz2⟩ := info_parts Tryz.infoUpd
  have hG' := hG
  obtain ⟨hown, hok⟩ := hG
  have h' := h
  obtain ⟨⟨a, cap, rfl, hc1, hc2, hc3, _⟩, hok2⟩ := h
  have hok3 : ∀ r ∈ l ++ more, MvOk r := fun r hr => by
    rcases List.mem_append.1 hr with hr | hr
    · exact hok r hr
    · exact hok2 r hr
  by_cases h0 : more.length = 0
  · obtain rfl : more = [] := List.length_eq_zero_iff.1 h0
    obtain ⟨base, sc, hv, hle⟩ : ∃ base sc, v = .slice base l.length sc ∧ l.length ≤ sc := by
      rcases hown.2 with ⟨rfl, hn⟩ | ⟨g, c, cur, rfl, _, _, hn, _⟩
      · exact ⟨none, 0, by rw [hn], by omega⟩
      · exact ⟨_, _, rfl, hn⟩
    subst hv
    refine ⟨_, w, run_append_nothing _ 24 24 ty 93 i0 Tryz.underlying24 hi base l.length sc hle _
      ⟨.inl ⟨_, Tryz.underlying24⟩, fun w' => by simp [Builtin.lenOf], by cases a <;> simp [Builtin.firstCells] <;> rfl, by cases a <;> simp [Builtin.firstCells] <;> rfl, by simp, by simp⟩, ?_, Upd.refl _ _⟩
    rw [List.append_nil]; exact hG'
  · obtain ⟨ad, rfl, hnews⟩ := mvs_news h' (by omega)
    obtain ⟨g, c, x, hr, ho, hg, hor, hlt⟩ := run_append_lies (P := Tryz.prog) w 24 ty B 93 i0 _ 3 32 Tryz.underlying24 hi hz0 hz1 hz2 rfl (by omega) v l.length _ hown ad more.length cap
      (flat (fun i => mvCells (mv more i)) more.length) (flat_length fun _ _ => rfl) hnews (one_flat_mv _) (by omega) (by unfold maxLen; omega) (by omega) hB _ rfl
    refine ⟨_, x, hr, ⟨?_, hok3⟩, Upd.grown (Upd.refl _ _) hg (fun k hk _ => hk)⟩
    rw [List.length_append, flat_add]
    have e1 : flat (fun i => mvCells (mv (l ++ more) i)) l.length = flat (fun i => mvCells (mv l i)) l.length :=
      flat_congr fun i hi => by
        have : mv (l ++ more) i = mv l i := by unfold mv at_; simp only [List.getD_eq_getElem?_getD, List.getElem?_append_left hi]
        rw [this]
    have e2 : flat (fun j => mvCells (mv (l ++ more) (l.length + j))) more.length = flat (fun i => mvCells (mv more i)) more.length :=
      flat_congr fun i hi => by
        have : mv (l ++ more) (l.length + i) = mv more i := by
          unfold mv at_; simp only [List.getD_eq_getElem?_getD]
          rw [List.getElem?_append_right (by omega), show l.length + i - l.length = i by omega]
        rw [this]
    rw [e1, e2]; exact ho

theorem ownU_empty (w : World) : OwnU w.heap.size (w.alloc (.cells #[] 93)) (.slice (some ⟨w.heap.size, 0, none⟩) 0 0) [] :=
  ⟨World.ownsRow_made w #[] 0 (Nat.le_refl _) (Nat.zero_le _) (by simp), fun r h => by cases h⟩

set_option maxHeartbeats 1000000 in
/-- slices.Clone of updates -/
theorem cloneMvs_any (l : List Mv) (v : Value) (S : Nat → Prop) (w : World) (h : MvsV S w v l) :
    Calls Tryz.prog 163 #[v] w fun e w' => ∃ v', e = .returned v' ∧ OwnU w.heap.size w' v' l ∧ Below w.heap.size w w' := by
  have h' := h
  obtain ⟨a, n, cap, HN, rfl, h1, h2, h3, h4⟩ := h.open
  clear h4 h
  have q22 : ∀ (w : World) (a : Option Addr) (n c n' c' : Nat), (binOp .eql 24 (.slice a n c) (.slice none n' c')).run Tryz.prog w = .ok (.bool a.isNone) w := fun w a n c n' c' => Lib.run_eql_slice_nil w _ _ a n c n' c' Tryz.underlying24
  cases a with
  | none =>
    have hl0 : l = [] := by
      obtain ⟨⟨a, cap, e, _, _, _, h4⟩, _⟩ := h'
      cases e
      rcases Nat.eq_zero_or_pos l.length with h | h
      · exact List.length_eq_zero_iff.1 h
      · obtain ⟨b, off, e, _⟩ := h4 h; cases e
    subst hl0
    go_enter Tryz.func163, Tryz.ntmps163
    go_wp2_with fail
    go_ret
    exact ⟨_, rfl, OwnU.nil _ _, Below.refl _ _⟩
  | some ad =>
    have hB0 : Below w.heap.size w (w.alloc (.cells #[] 93)) := (Below.refl _ _).alloc (Nat.le_refl _) _
    obtain ⟨v1, x1, hr1, ho1, hu1⟩ := appendMvs_row (l := []) 24 (ownU_empty w) (h'.below hB0) (by have := HN.out; simp; omega) hB0.size
    have hB1 : Below w.heap.size w x1 := hB0.trans (hu1.below (B := w.heap.size) hB0.size (fun b hb => ((ownU_empty w).block hb).1))
    rw [List.nil_append] at ho1
    have HE := Lib.hid (And.intro ho1 hB1)
    obtain ⟨a1, c1, rfl⟩ := ho1.shape
    clear ho1 hB1 hu1 hB0 h'
    go_enter Tryz.func163, Tryz.ntmps163
    go_wp2_with (at_builtin; refine wpList_append_run rfl (.tmp 5) (.tmp 6) 24 rfl _ _ _ rfl rfl hr1 ?_)
    go_ret
    exact ⟨_, rfl, HE.out.1, HE.out.2⟩


theorem MvsV.bytes {S : Nat → Prop} {w : World} {v : Value} {l : List Mv} (h : MvsV S w v l) : l.length * 32 ≤ 140737488351232 :=
  let ⟨⟨_, _, _, _, _, h3, _⟩, _⟩ := h; h3
end Go.Proofs.YtdhoodloklgokaaGreatDoor
