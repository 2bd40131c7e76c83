/- Walks: the law RefsOnce. -/
import Derived.Test.YtcppgkhkijejoaaOnceP
import Derived.Test.YtcppgkhkijejoaaRefs6
import Derived.Test.YtcppgkhkijejoaaDrawn
namespace Go.Proofs.Ytcppgkhkijejoaa
open Go.RowKit
set_option linter.unusedVariables false
set_option linter.unusedSimpArgs false

theorem RefsV.take {S : Nat → Prop} {w : World} {a : Option Addr} {n cap : Nat} {l : List Rf} (h : RefsV S w (.slice a n cap) l) {i : Nat} (hi : i ≤ l.length) : RefsV S w (.slice a i cap) (l.take i) := by
  obtain ⟨⟨a', cap', hv, h1, h2, h3, h4⟩, h5⟩ := h
  cases hv
  have hl : (l.take i).length = i := by simp; omega
  refine ⟨⟨a, cap, by rw [hl], by omega, h2, by omega, fun hp => ?_⟩, fun r hr => h5 r (List.mem_of_mem_take hr)⟩
  rw [hl] at hp
  obtain ⟨b, off, ha, hS, hc⟩ := h4 (by omega)
  refine ⟨b, off, ha, hS, fun j hj m u hu => hc j (by omega) m u ?_⟩
  have e : rf (l.take i) j = rf l j := by unfold rf at_; simp only [List.getD_eq_getElem?_getD, List.getElem?_take, show j < i by omega, if_true]
  have hu' : [Value.string (rf (l.take i) j).name, .int .i64 (rf (l.take i) j).id][m]? = some u := hu
  rw [e] at hu'; exact hu'

theorem RefsV.drop {S : Nat → Prop} {w : World} {b off n cap : Nat} {l : List Rf} (h : RefsV S w (.slice (some ⟨b, off, none⟩) n cap) l) {i : Nat} (hi : i ≤ l.length) : RefsV S w (.slice (some ⟨b, off + i * 2, none⟩) (n - i) (cap - i)) (l.drop i) := by
  obtain ⟨⟨a', cap', hv, h1, h2, h3, h4⟩, h5⟩ := h
  cases hv
  have hl : (l.drop i).length = l.length - i := by simp
  refine ⟨⟨_, cap - i, by rw [hl], by omega, by omega, by omega, fun hp => ?_⟩, fun r hr => h5 r (List.mem_of_mem_drop hr)⟩
  rw [hl] at hp
  obtain ⟨b', off', ha, hS, hc⟩ := h4 (by omega)
  cases ha
  refine ⟨b, off + i * 2, rfl, hS, fun j hj m u hu => ?_⟩
  have e : rf (l.drop i) j = rf l (i + j) := by unfold rf at_; simp only [List.getD_eq_getElem?_getD, List.getElem?_drop]
  have hu' : [Value.string (rf (l.drop i) j).name, .int .i64 (rf (l.drop i) j).id][m]? = some u := hu
  rw [e] at hu'
  have := hc (i + j) (by omega) m u hu'
  rw [show off + i * 2 + j * 2 + m = off + (i + j) * 2 + m by omega]; exact this

def refCells (l : List Rf) : List Value := l.flatMap fun r => [.string r.name, .int .i64 r.id]
theorem refCells_append (l k : List Rf) : refCells (l ++ k) = refCells l ++ refCells k := by simp [refCells]
theorem refCells_length (l : List Rf) : (refCells l).length = l.length * 2 := by
  induction l with
  | nil => rfl
  | cons a l ih => simp [refCells] at ih ⊢; omega
theorem refCells_get (l : List Rf) : ∀ i, i < l.length → ∀ j u, [Value.string (rf l i).name, .int .i64 (rf l i).id][j]? = some u → (refCells l)[i * 2 + j]? = some u := by
  induction l with
  | nil => intro i hi; simp at hi
  | cons a l ih =>
    intro i hi j u hu
    cases i with
    | zero =>
      have hj : j < 2 := by
        rcases Nat.lt_or_ge j 2 with h | h
        · exact h
        · rw [List.getElem?_eq_none (by simpa using h)] at hu; cases hu
      have : refCells (a :: l) = [.string a.name, .int .i64 a.id] ++ refCells l := rfl
      rw [this, Nat.zero_mul, Nat.zero_add, List.getElem?_append_left (by simpa using hj)]; exact hu
    | succ i =>
      have : refCells (a :: l) = [.string a.name, .int .i64 a.id] ++ refCells l := rfl
      rw [this, List.getElem?_append_right (by simp; omega)]
      have h2 := ih i (by simpa using hi) j u hu
      rw [show (i + 1) * 2 + j - [Value.string a.name, .int .i64 a.id].length = i * 2 + j by simp; omega]; exact h2

theorem Try.infoRef : (Try.prog.info? 43).map (fun i => (i.zero, i.size, i.bytes)) = some (some (.agg #[.string ⟨#[]⟩, .int .i64 0]), 2, 24) := by kernel_rfl

/-- append of a []Ref to one of the call's own -/
theorem append_refs {x : World} {B m : Nat} {xs ys : List Rf} {g c : Nat} {lv : Value} {S : Nat → Prop} (ty : TypeId) (N : Nat) (hN : N = m + ys.length) (hown : x.ownsRow B 43 2 (.slice (some ⟨g, 0, none⟩) m c) m (refCells xs))
    (hy : RefsV S x lv ys) (hm : N ≤ 1000) (hB : B ≤ x.heap.size) :
    ∃ g' c' x', (Builtin.append_ #[36, 36] ty #[.slice (some ⟨g, 0, none⟩) m c, lv]).run Try.prog x = .ok (.slice (some ⟨g', 0, none⟩) N c') x' ∧
      x'.ownsRow B 43 2 (.slice (some ⟨g', 0, none⟩) N c') N (refCells (xs ++ ys)) ∧ x.grownBy x' (some g) := by
  subst hN
  obtain ⟨i0, hi, hz0, hz1, hz2⟩ := info_parts Try.infoRef
  obtain ⟨⟨a, cap, hv, h1, h2, h3, h4⟩, h5⟩ := hy
  subst hv
  by_cases h0 : ys.length = 0
  · have hnil : ys = [] := List.length_eq_zero_iff.1 h0
    subst hnil
    refine ⟨g, c, x, ?_, by simpa using hown, ⟨rfl, rfl, rfl, Nat.le_refl _, fun _ _ _ => rfl⟩⟩
    have hle : m ≤ c := by
      rcases hown.2 with ⟨e, _⟩ | ⟨g2, cap2, cur, e, _, _, hh, _⟩
      · cases e
      · simp at e; omega
    exact run_append_nothing x 36 36 ty 43 i0 Try.underlying36 hi (some ⟨g, 0, none⟩) m c hle _
      ⟨.inl ⟨_, Try.underlying36⟩, fun w' => by simp [Builtin.lenOf], by cases a <;> simp [Builtin.firstCells] <;> rfl, by cases a <;> simp [Builtin.firstCells] <;> rfl, by simp, by simp⟩
  · obtain ⟨b, off, rfl, _, hc⟩ := h4 (by omega)
    obtain ⟨g', c', x', hr, ho, hg, _, _⟩ := run_append_lies (P := Try.prog) x 36 ty B 43 i0 _ 2 24 Try.underlying36 hi hz0 hz1 hz2 rfl (by omega) _ m _ hown ⟨b, off, none⟩ ys.length cap (refCells ys) (by rw [refCells_length])
      (fun j u hu => by
        have hj : j < ys.length * 2 := by
          rcases Nat.lt_or_ge j (ys.length * 2) with h | h
          · exact h
          · rw [List.getElem?_eq_none (by rw [refCells_length]; exact h)] at hu; cases hu
        have hi' : j / 2 < ys.length := by omega
        have key : [Value.string (rf ys (j / 2)).name, .int .i64 (rf ys (j / 2)).id][j % 2]? = some u := by
          have h01 : j % 2 = 0 ∨ j % 2 = 1 := by omega
          have e := refCells_get ys (j / 2) hi' (j % 2)
          rw [show j / 2 * 2 + j % 2 = j by omega, hu] at e
          rcases h01 with h | h
          · rw [h] at e ⊢; exact (e _ rfl).symm ▸ rfl
          · rw [h] at e ⊢; exact (e _ rfl).symm ▸ rfl
        have := hc (j / 2) hi' (j % 2) u key
        rw [show (⟨b, off, none⟩ : Addr).add j = ⟨b, off + j, none⟩ by unfold Addr.add; split <;> simp_all]
        rw [show off + j = off + j / 2 * 2 + j % 2 by omega]; exact this)
      (by
        intro u hu
        simp only [refCells, List.mem_flatMap, List.mem_cons, List.not_mem_nil, or_false] at hu
        obtain ⟨r, _, rfl | rfl⟩ := hu <;> rfl) (by omega) (by unfold maxLen; omega) (by omega) hB x.heap.size rfl
    exact ⟨g', c', x', hr, by rw [refCells_append]; exact ho, hg⟩

theorem own_empty2 (x : World) (t : TypeId) (B : Nat) (hB : B ≤ x.heap.size) : (x.alloc (.cells #[] t)).ownsRow B t 2 (.slice (some ⟨x.heap.size, 0, none⟩) 0 0) 0 (refCells []) :=
  ⟨rfl, .inr ⟨x.heap.size, 0, #[], rfl, hB, heap_alloc_new x _, Nat.le_refl _, by unfold maxLen; omega, rfl, rfl⟩⟩

theorem own_refs {x : World} {B N : Nat} {v : Value} {l : List Rf} (h : x.ownsRow B 43 2 v N (refCells l)) (hN : N = l.length) (hb : N * 24 ≤ 140737488351232) (hi : ∀ r ∈ l, I64 r.id ∧ r.name.size ≤ 140737488351232) : RefsV (fun _ => True) x v l := by
  subst hN
  exact ⟨own_sl h (fun _ _ => trivial) hb (fun i hn j u hu => refCells_get l i hn j u hu), hi⟩

theorem prefix_cases {a b : ByteArray} (h : inPlace a b = false) : (decide ((a ++ ⟨#[47]⟩ : ByteArray).size ≤ b.size) && ((b.extract 0 (a ++ ⟨#[47]⟩ : ByteArray).size).toList == (a ++ ⟨#[47]⟩ : ByteArray).toList)) = false := by rw [prefix_slash]; exact h

set_option maxRecDepth 100000 in
set_option maxHeartbeats 8000000 in
theorem refsOnce_any (l : List Rf) (objs : List Obj) (n : Int) (v u : Value) (S S' : Nat → Prop) (w : World) (h : RefsV S w v l) (ho : StoreV S' w u objs) (hn : I64 n) :
    Calls Try.prog 11 #[v, u, .int .i64 n] w fun e w' => e = .returned (.bool true) ∧ Below w.heap.size w w' := by
  obtain ⟨R, hR, hR1, _⟩ := cls_plain w
  have hRb := hR.below
  have hRn := hR.next
  have hRa := hR.alloc
  have hRg := cls_grown hR
  have hRd := hR.drewN
  have Hck := Lib.hid (fun x (hx : In R x) => refsCheck_any l objs _ _ S S' x (h.below (hRb _ hx)) (ho.below (hRb _ hx)))
  have Hget := Lib.hid (fun x (hx : In R x) s hs => get_any l _ S s x (h.below (hRb _ hx)) hs)
  have Hbe := Lib.hid (fun x (hx : In R x) a (ha : I64 a) => behind_any objs a a _ S' x (ho.below (hRb _ hx)) ha ha)
  have h' := h
  have ho' := ho
  obtain ⟨a, N, cap, HN, rfl, h1, h2, h3, h4, h5⟩ := h.open
  obtain ⟨ua, uc, rfl⟩ := ho.vshape
  clear h ho
  by_cases hz : checkRefs l objs = 0
  · obtain ⟨hcs, hok⟩ := checkRefs_zero.1 hz
    have hz' : (checkRefs l objs != 0) = false := by simpa using hz
    have Hok := Lib.hid hok
    have hN8 : N ≤ 8 := by rw [HN.out]; exact hok.many
    have Hb2 := Lib.hid (fun i (hi : i < N) => by
      have e : behindErr objs (rf l i).id (rf l i).id = 0 := behindErr_zero.2 ⟨hcs, hok.commit i (by rw [← HN.out]; exact hi), hok.commit i (by rw [← HN.out]; exact hi)⟩
      exact And.intro e (behind_law (c := (rf l i).id) e).2.2.1)
    have Hwo := Lib.hid (fun k (hk : k < N) => checkRefs_zero.2 ⟨hcs, hok.without (n := k) (by rw [← HN.out]; exact hk)⟩)
    clear hz hcs hok
    go_enter Try.func11, Try.ntmps11
    go_wp2_with fail
    refine (refsBegun_any _).mono ?_
    rintro e w1 ⟨rfl, hb1⟩
    have hR2 := hRn _ _ hR1 hb1
    go_wp2_with fail
    refine (walkBegun_any _).mono ?_
    rintro e w2 ⟨rfl, hb2⟩
    have hR3 := hRn _ _ hR2 hb2
    go_wp2_with fail
    refine (Hck.out _ hR3).mono ?_
    rintro e w3 ⟨rfl, hb3⟩
    have hR4 := hRn _ _ hR3 hb3
    clear hb1 hb2 hb3 hR1 hR2 hR3
    go_wp2_with fail
    go_loopw [7] (fun i wr => ∃ k : Nat, k ≤ N ∧ i = .int .i64 k ∧ In R wr) (fun i _ => N - (intOf i).toNat)
    case atStart => exact ⟨0, by omega, rfl, hR4⟩
    case round =>
      obtain ⟨k, hk, rfl, hRw⟩ := hrel
      clear hR4
      obtain ⟨wo, rfl⟩ : ∃ wo : World, wo = wr := ⟨_, rfl⟩
      by_cases hlt : k < N
      · obtain ⟨b, off, rfl, hb, k0, k1⟩ := h4 (by omega)
        have x0 := fun x (hx : In R x) => k0 k x hlt (hRb x hx)
        have x1 := fun x (hx : In R x) => k1 k x hlt (hRb x hx)
        have Hk0 := Lib.hid k0
        clear k0 k1 h4
        have hid := h5 k hlt
        obtain ⟨e1, e2⟩ := Hb2.out k hlt
        obtain ⟨g1, g2⟩ := Hok.out.get (i := k) (by rw [← HN.out]; exact hlt)
        have HG := Lib.hid (fun x hx => by have := Hget.out x hx (rf l k).name hid.2; rw [g1, g2] at this; exact this)
        have HB := Lib.hid (fun x hx => by have := Hbe.out x hx (rf l k).id hid.1; rw [e1, e2] at this; exact this)
        have x00 := x0 _ hRw
        have hi1 : (0 : Int) ≤ (k : Int) := by omega
        have hi2 : (k : Int) < (N : Int) := by omega
        have hqq : ((rf l k).id != (rf l k).id) = false := by simp
        clear e1 e2 g1 g2 hid
        go_wp2_with fail
        refine (HG.out _ hRw).mono ?_
        rintro e w4 ⟨rfl, hb4⟩
        have hR5 := hRn _ _ hRw hb4
        clear hb4 x00
        go_wp2_with fail
        refine wp_region_quiet_below (by kernel_rfl) (by kernel_rfl) ?_
        repeat (quiet_step (exact Calls.regrown_of (HB.out _ (hRg _ _ _ hR5))))
        refine wpQuiet_nil ?_
        intro _ hw'
        obtain ⟨⟨dq, osq⟩, hw''⟩ := hw'
        subst hw''
        have hR6 := hRg _ dq osq hR5
        generalize Go.Sort.grow (redrawn w4 dq) osq = w5 at *
        have x15 := x1 _ hR6
        clear hR5
        go_wp2_with fail
        clear x15
        go_loopw [12] (fun i wr => ∃ m : Nat, m ≤ N ∧ i = .int .i64 m ∧ In R wr) (fun i _ => N - (intOf i).toNat)
        case atStart => exact ⟨0, by omega, rfl, hR6⟩
        case round =>
          obtain ⟨m, hm, rfl, hRv⟩ := hrel
          clear hR6
          by_cases hmlt : m < N
          · have y0 := fun x (hx : In R x) => Hk0.out m x hmlt (hRb x hx)
            have hj1 : (0 : Int) ≤ (m : Int) := by omega
            have hj2 : (m : Int) < (N : Int) := by omega
            have Hpr := Lib.hid (prefix_cases (Hok.out.apart k m (by rw [← HN.out]; exact hlt) (by rw [← HN.out]; exact hmlt)))
            have Hne := Lib.hid (fun (hne : m ≠ k) => Hok.out.ne (i := m) (j := k) (by rw [← HN.out]; exact hmlt) (by rw [← HN.out]; exact hlt) hne)
            have hsz : ((rf l k).name ++ ⟨#[47]⟩ : ByteArray).size = (rf l k).name.size + 1 := by rw [ByteArray.size_append]; rfl
            have hs1 := (h5 k hlt).2
            have hs2 := (h5 m hmlt).2
            have n1 : ¬ 9223372036854775807 < (rf l k).name.size + 1 := by omega
            obtain ⟨pp, hpp⟩ : ∃ pp : ByteArray, pp = (rf l k).name ++ ⟨#[47]⟩ := ⟨_, rfl⟩
            have Hpp := Lib.hid hpp; clear hpp
            have Hsz := Lib.hid hsz; clear hsz
            go_wp2_with fail
            go_cut [13, 14] (fun s13 s14 wx => s13 = .string pp ∧ s14 = .string (rf l m).name ∧ ∃ x, x = wx ∧ In R x)
            case first =>
              go_quiet (fail)
              go_wp2_with fail
              go_meet
              exact ⟨by rw [Hpp.out], rfl, _, rfl, hRd _ _ hRv⟩
            case rest =>
              obtain ⟨rfl, rfl, w6, rfl, hR7⟩ := hcut
              rw [← Hpp.out] at Hpr
              have hps : pp.size ≤ 9223372036854775807 := by rw [Hpp.out, Hsz.out]; omega
              clear n1
              go_upto_region 16 with fail
              go_cut [122] (fun s122 wx => s122 = .bool false ∧ ∃ x, x = wx ∧ In R x)
              case first =>
                have hms := (h5 m hmlt).2
                rcases Classical.em (k = m) with hkm | hkm
                case' inl =>
                  have hq : ((k : Int) != (m : Int)) = false := by simp [hkm]
                  clear hkm
                case' inr =>
                  have hq : ((k : Int) != (m : Int)) = true := by simp; omega
                  have hnn := Hne.out (fun e => hkm e.symm)
                  clear hkm
                all_goals
                  by_cases hle : pp.size ≤ (rf l m).name.size
                  · have hd : decide (pp.size ≤ (rf l m).name.size) = true := by simpa using hle
                    have heq : ((((rf l m).name.extract 0 pp.size).toList == pp.toList)) = false := by
                      have := Hpr.out
                      rw [hd] at this
                      simpa using this
                    have hle2 : (pp.size : Int) ≤ ((rf l m).name.size : Int) := by omega
                    go_quiet (fail)
                    go_wp2_with fail
                    go_meet
                    exact ⟨rfl, _, rfl, hRd _ _ hR7⟩
                  · have hd : decide (pp.size ≤ (rf l m).name.size) = false := by simpa using hle
                    have hle2 : ¬ (pp.size : Int) ≤ ((rf l m).name.size : Int) := by omega
                    go_quiet (fail)
                    go_wp2_with fail
                    go_meet
                    exact ⟨rfl, _, rfl, hRd _ _ hR7⟩
              case rest =>
                obtain ⟨rfl, w7, rfl, hR8⟩ := hcut
                go_wp2_with fail
                go_roundw
                case rel => exact ⟨m + 1, by omega, by go_num, hR8⟩
                case measure => simp [intOf]; omega
          · obtain rfl : m = N := by omega
            go_wp2_with fail
            go_roundw
            case rel => exact ⟨k + 1, by omega, by go_num, hRv⟩
            case measure => simp [intOf]; omega
      · obtain rfl : k = N := by omega
        by_cases hn0 : n < 0
        · go_wp2_with fail
          go_ret
          exact ⟨rfl, hRb _ hRw⟩
        · by_cases hnk : (k : Int) ≤ n
          · go_wp2_with fail
            go_ret
            exact ⟨rfl, hRb _ hRw⟩
          · obtain ⟨m, rfl⟩ : ∃ m : Nat, n = (m : Int) := ⟨n.toNat, by omega⟩
            have hmk : m < k := by omega
            clear hn0 hnk
            have hwo := Hwo.out m hmk
            have hd1 : decide ((m : Int) < 0) = false := by simp
            have hd2 : decide ((k : Int) ≤ (m : Int)) = false := by simp; omega
            go_wp2_with fail
            obtain ⟨b, off, rfl, _, _, _⟩ := h4 (by omega)
            have hkc : k ≤ cap := h1
            have HN1 := Lib.hid HN.out
            have Htk := Lib.hid (show RefsV S w (.slice (some ⟨b, off, none⟩) m cap) (l.take m) from h'.take (by rw [← HN.out]; omega))
            have Hdr := Lib.hid (show RefsV S w (.slice (some ⟨b, off + (m + 1) * 2, none⟩) (k - (m + 1)) (cap - (m + 1))) (l.drop (m + 1)) from h'.drop (by rw [← HN.out]; omega))
            have Hdz := Lib.hid (show cap = m + 1 → RefsV S w (.slice (some ⟨b, off, none⟩) (k - (m + 1)) (cap - (m + 1))) (l.drop (m + 1)) from fun hc => by
              have e1 : l.drop (m + 1) = [] := List.drop_eq_nil_of_le (by rw [← HN.out]; omega)
              rw [e1, show k - (m + 1) = 0 by omega]; exact RefsV.nil _ _ _ _ (by omega))
            have Hall := Lib.hid (show ∀ r ∈ without l m, I64 r.id ∧ r.name.size ≤ 140737488351232 from fun r hr => by
              unfold without at hr
              rcases List.mem_append.1 hr with hr | hr
              · exact h'.2 r (List.mem_of_mem_take hr)
              · exact h'.2 r (List.mem_of_mem_drop hr))
            have Hlen := Lib.hid (show (l.take m).length = m ∧ (l.drop (m + 1)).length = k - (m + 1) from by
              rw [List.length_take, List.length_drop, ← HN.out]; omega)
            have Hwo2 := Lib.hid hwo
            clear hwo h' h4 h5 hd1 hd2 Hget Hbe Hck Hb2 Hwo Hok hlt
            have hi1 : (0 : Int) ≤ (m : Int) := by omega
            have hi2 : (m : Int) ≤ (cap : Int) := by omega
            have hi3 : (m : Int) + 1 ≤ (k : Int) := by omega
            have hi4 : (k : Int) ≤ (cap : Int) := by omega
            have hwr := wrap_in (n := (m : Int) + 1) (by omega)
            obtain ⟨o8, hdv, ho8⟩ : ∃ o8 : Nat, RefsV S w (.slice (some ⟨b, o8, none⟩) (k - (m + 1)) (cap - (m + 1))) (l.drop (m + 1)) ∧ (cap = m + 1 ∧ o8 = off ∨ cap ≠ m + 1 ∧ o8 = off + (m + 1) * 2) := by
              by_cases hc : cap = m + 1
              · exact ⟨off, Hdz.out hc, .inl ⟨hc, rfl⟩⟩
              · exact ⟨_, Hdr.out, .inr ⟨hc, rfl⟩⟩
            have Hdv := Lib.hid hdv
            have Ho8 := Lib.hid ho8
            clear hdv ho8 Hdr Hdz
            refine any_start (by kernel_rfl) rfl ?_
            refine any_take 1 (.slice (some ⟨b, off, none⟩) k cap) rfl (by kernel_rfl) (by kernel_rfl) (by kernel_rfl) (fun _ _ _ h => h) (by rfl) (fun w => ?_) ?_
            · go_simp
            simp only [Act.put, List.setIfInBounds_toArray, List.set_cons_zero, List.set_cons_succ]
            refine any_take 2 (.int .i64 (m : Int)) rfl (by kernel_rfl) (by kernel_rfl) (by kernel_rfl) (fun _ _ _ h => h) (by rfl) (fun w => ?_) ?_
            · go_simp
            simp only [Act.put, List.setIfInBounds_toArray, List.set_cons_zero, List.set_cons_succ]
            refine any_take 3 (.slice (some ⟨b, off, none⟩) m cap) rfl (by kernel_rfl) (by kernel_rfl) (by kernel_rfl) (fun _ _ _ h => h) (by rfl) (fun w => ?_) ?_
            · go_simp
            simp only [Act.put, List.setIfInBounds_toArray, List.set_cons_zero, List.set_cons_succ]
            refine any_take 5 (.slice (some ⟨b, off, none⟩) k cap) rfl (by kernel_rfl) (by kernel_rfl) (by kernel_rfl) (fun _ _ _ h => h) (by rfl) (fun w => ?_) ?_
            · go_simp
            simp only [Act.put, List.setIfInBounds_toArray, List.set_cons_zero, List.set_cons_succ]
            refine any_take 6 (.int .i64 (m : Int)) rfl (by kernel_rfl) (by kernel_rfl) (by kernel_rfl) (fun _ _ _ h => h) (by rfl) (fun w => ?_) ?_
            · go_simp
            simp only [Act.put, List.setIfInBounds_toArray, List.set_cons_zero, List.set_cons_succ]
            refine any_take 7 (.int .i64 ((m : Int) + 1)) rfl (by kernel_rfl) (by kernel_rfl) (by kernel_rfl) (fun _ _ _ h => h) (by rfl) (fun w => ?_) ?_
            · go_simp
            simp only [Act.put, List.setIfInBounds_toArray, List.set_cons_zero, List.set_cons_succ]
            refine any_take 8 (.slice (some ⟨b, o8, none⟩) (k - (m + 1)) (cap - (m + 1))) rfl (by kernel_rfl) (by kernel_rfl) (by kernel_rfl) (fun _ _ _ h => h) (by rfl) (fun w => ?_) ?_
            · rcases Ho8.out with ⟨hc, rfl⟩ | ⟨hc, rfl⟩
              · go_simp
                intro hneg; omega
              · go_simp
                intro hneg; omega
            simp only [Act.put, List.setIfInBounds_toArray, List.set_cons_zero, List.set_cons_succ]
            refine any_take 10 (.slice ua objs.length uc) rfl (by kernel_rfl) (by kernel_rfl) (by kernel_rfl) (fun _ _ _ h => h) (by rfl) (fun w => ?_) ?_
            · go_simp
            simp only [Act.put, List.setIfInBounds_toArray, List.set_cons_zero, List.set_cons_succ]
            have hRx := hR.drew _ hRw
            generalize wo.drew = x0 at *
            have own1 := own_empty2 x0 43 x0.heap.size (Nat.le_refl _)
            have hRx1 := hRa _ (.cells #[] 43) hRx
            have hb1 : Below x0.heap.size x0 (x0.alloc (.cells #[] 43)) := (Below.refl _ _).alloc (Nat.le_refl _) _
            refine any_one 0 (by kernel_rfl) rfl (by rfl) (fun K hK => ?_)
            go_wp2_with fail
            refine any_one 4 (by kernel_rfl) rfl (by rfl) (fun K hK => ?_)
            obtain ⟨g2, c2, x2, hr, own2, hgr⟩ := append_refs 36 m (by have := Hlen.out.1; omega) own1 (Htk.out.below (hRb _ hRx1)) (by omega) (by simp)
            have hb2 := Below.grown hb1 hgr (by simp) (fun k hk => (own1.lt k hk).1)
            have hRx2 := hRn _ _ hRx hb2
            have hsz2 : x0.heap.size ≤ x2.heap.size := by have := hgr.size; simp at this; omega
            refine wp_append_run (.tmp 131) (.tmp 134) 36 (by rfl) _ _ _ (by rfl) (by rfl) hr ?_
            refine hK _ _ ?_
            simp only [Act.put, List.setIfInBounds_toArray, List.set_cons_zero, List.set_cons_succ]
            refine any_one 9 (by kernel_rfl) rfl (by rfl) (fun K hK => ?_)
            obtain ⟨g3, c3, x3, hr, own3, hgr3⟩ := append_refs 36 (k - 1) (by have := Hlen.out.2; omega) own2 (Hdv.out.below (hRb _ hRx2)) (by omega) hsz2
            have hb3 := Below.grown hb2 hgr3 hsz2 (fun k hk => (own2.lt k hk).1)
            have hRx3 := hRn _ _ hRx hb3
            refine wp_append_run (.tmp 135) (.tmp 139) 36 (by rfl) _ _ _ (by rfl) (by rfl) hr ?_
            refine hK _ _ ?_
            simp only [Act.put, List.setIfInBounds_toArray, List.set_cons_zero, List.set_cons_succ]
            have hfin := refsCheck_any (without l m) objs _ _ _ _ x3 (own_refs own3 (by have := Hlen.out; unfold without; rw [List.length_append]; omega) (by omega) Hall.out) (ho'.below (hRb _ hRx3))
            rw [Hwo2.out] at hfin
            refine any_one 11 (by kernel_rfl) rfl (by rfl) (fun K hK => ?_)
            go_wp2_with fail
            refine hfin.mono ?_
            rintro e w9 ⟨rfl, hb9⟩
            have hR9 := hRn _ _ hRx3 hb9
            clear hfin
            go_wp2_with fail
            refine any_one 12 (by kernel_rfl) rfl (by rfl) (fun K hK => ?_)
            go_wp2_with fail
            refine any_one 13 (by kernel_rfl) rfl (by rfl) (fun K hK => ?_)
            go_wp2_with fail
            refine any_done (by kernel_rfl) ?_
            go_wp2_with fail
            go_ret
            exact ⟨rfl, hRb _ hR9⟩
  · have hz' : (checkRefs l objs != 0) = true := by simpa using hz
    clear hz
    go_enter Try.func11, Try.ntmps11
    go_wp2_with fail
    refine (refsBegun_any _).mono ?_
    rintro e w1 ⟨rfl, hb1⟩
    have hR2 := hRn _ _ hR1 hb1
    go_wp2_with fail
    refine (walkBegun_any _).mono ?_
    rintro e w2 ⟨rfl, hb2⟩
    have hR3 := hRn _ _ hR2 hb2
    go_wp2_with fail
    refine (Hck.out _ hR3).mono ?_
    rintro e w3 ⟨rfl, hb3⟩
    have hR4 := hRn _ _ hR3 hb3
    go_wp2_with fail
    go_ret
    exact ⟨rfl, hRb _ hR4⟩
end Go.Proofs.Ytcppgkhkijejoaa
