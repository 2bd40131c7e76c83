
/- Walks: what a push needs: the program's Needs. -/
import Derived.Test.YtemdnkoknjmheaaGreatNeedA
namespace Go.Proofs.YtemdnkoknjmheaaGreat
open Go.RowKit
set_option linter.unusedVariables false
set_option linter.unusedSimpArgs false

theorem NeedAt.re {S S' : Nat → Prop} {B J : Nat} {w : World} {xs : List Int} (h : NeedAt S B J w xs) (hS : ∀ b, S' b → b < B ∨ w.heap.size ≤ b) : NeedAt S' B J w xs := by
  obtain ⟨v, h1, h2, h3, h4⟩ := h
  refine ⟨v, h1, h2, fun b hb e => ?_, h4⟩
  have := h1.lt b e
  rcases hS b hb with h | h <;> omega
theorem NeedAt.fresh {S : Nat → Prop} {B J : Nat} {x : World} {xs : List Int} (h : NeedAt S B J x xs) (o : Go.Obj) : NeedAt (fun b => b = x.heap.size) B J (x.alloc o) xs :=
  (h.re (S' := fun b => b = x.heap.size) (fun b hb => .inr (by omega))).below ((Below.refl _ _).alloc (Nat.le_refl _) _)

theorem linksTo_next {p : Psh} {k : Nat} (h : k < p.objects.length) : linksTo p (k + 1) = linksTo p k ++ (obj p.objects k).links := by
  unfold linksTo; rw [List.take_succ_eq_append_getElem h, List.flatMap_append, obj_lt h]; simp
theorem newsTo_next {p : Psh} {k : Nat} (h : k < p.updates.length) : newsTo p (k + 1) = newsTo p k ++ [(mv p.updates k).new] := by
  unfold newsTo; rw [List.take_succ_eq_append_getElem h, List.map_append, mv_lt h]; rfl
theorem links_count {l : List Obj} (hc : ∀ o ∈ l, checkObj o = 0) : (l.flatMap (·.links)).length ≤ 4 * l.length := by
  induction l with
  | nil => simp
  | cons o l ih =>
    rw [List.flatMap_cons, List.length_append, List.length_cons]
    have h1 := (checkObj_ok (hc o List.mem_cons_self)).2.2.1
    have h2 := ih fun x hx => hc x (List.mem_cons_of_mem _ hx)
    omega
theorem linksTo_length {p : Psh} (h : checkPsh p = 0) (k : Nat) : (linksTo p k).length ≤ 48 := by
  obtain ⟨h1, h2, _⟩ := checkPsh_zero h
  have := links_count (l := p.objects.take k) fun o ho => eachE_zero h2 o (List.mem_of_mem_take ho)
  unfold linksTo
  rw [List.length_take] at this
  omega
theorem newsTo_length (p : Psh) (k : Nat) (h : p.updates.length ≤ 4) : (newsTo p k).length ≤ 4 := by unfold newsTo; rw [List.length_map, List.length_take]; omega

/-- a row as the shelf tells it -/
theorem own_holds {B g cap : Nat} {w : World} {xs : List Int} (h : w.ownsRow B 3 1 (.slice (some ⟨g, 0, none⟩) xs.length cap) xs.length (xs.map (Value.int .i64))) : Go.Sort.Holds (Value.int .i64) w g 0 xs.toArray ∧ g < w.heap.size ∧ xs.length ≤ cap ∧ cap ≤ 9223372036854775807 := by
  obtain ⟨hl, h2⟩ := h
  rcases h2 with ⟨e, _⟩ | ⟨g', cap', cur, e, hB, hg, hn, hm, hcs, hx⟩
  · cases e
  · cases e
    refine ⟨fun j hj => ?_, lt_of_block hg, hn, by unfold maxLen at hm; omega⟩
    have hj' : j < xs.length := by simpa using hj
    refine ⟨?_, by rw [Nat.zero_add]; exact block_free hg⟩
    rw [Nat.zero_add]
    refine block_cell hg ?_
    have e1 : (xs.map (Value.int .i64))[j]? = some (Value.int .i64 xs[j]) := by rw [List.getElem?_map, List.getElem?_eq_getElem hj']; rfl
    rw [← hx, List.getElem?_take] at e1
    split at e1
    · rw [getElem!_pos xs.toArray j hj]; simpa using e1
    · cases e1

theorem holds_ints {w : World} {g cap : Nat} {ys zs : List Int} (h : Go.Sort.Holds (Value.int .i64) w g 0 (ys ++ zs).toArray) (hc : ys.length ≤ cap) (hm : cap ≤ 9223372036854775807) (hl : ys.length * 8 ≤ 140737488351232) (hi : ∀ y ∈ ys, I64 y) :
    IntsV (fun b => b = g) w (.slice (some ⟨g, 0, none⟩) ys.length cap) ys :=
  IntsV.mk hc hm hl rfl (fun i hn => by
    have := (h i (by simp; omega)).1
    rw [this, getElem!_pos _ i (by simp; omega), nth_lt hn]
    simp [List.getElem_append_left hn]) hi

set_option maxRecDepth 100000 in
set_option maxHeartbeats 8000000 in
theorem needs_any (l : List Obj) (p : Psh) (lv ov uv : Value) (S1 S2 S3 : Nat → Prop) (w : World) (hl : StoreV S1 w lv l) (ho : StoreV S2 w ov p.objects) (hu : MvsV S3 w uv p.updates) :
    Calls Tryz.prog 7 #[lv, .agg #[ov, uv, .bool p.force]] w fun e w' => RetIntsE w w' e (needsL l p) (needsE l p) := by
  have hmf : ∀ (fn : Fn) (first cap : Array Value) (w : World), (Instr.makeFunc fn first cap).run Tryz.prog w = .ok (.func fn first cap) w := fun _ _ _ _ => rfl
  have Hc := Lib.hid (fun x (hx : Below w.heap.size w x) => storeCheck_any l _ _ x (hl.below hx))
  have Hp := Lib.hid (fun x (hx : Below w.heap.size w x) => pushCheck_any p _ _ _ _ x (ho.below hx) (hu.below hx))
  have HE := Lib.hid (show needsE l p = if checkStore l ≠ 0 then checkStore l else checkPsh p from rfl)
  have HL := Lib.hid (show needsL l p = if needsE l p = 0 then uniq (needG l p) else [] from rfl)
  have Hl := Lib.hid hl
  have Ho := Lib.hid ho
  have Hu := Lib.hid hu
  obtain ⟨la, lc, rfl⟩ := hl.vshape
  obtain ⟨oa, oc, rfl⟩ := ho.vshape
  obtain ⟨⟨ua, uc⟩, rfl⟩ := hu.shape
  obtain ⟨R, hR, hR1, hy, hz⟩ := cls_two w #[.slice la l.length lc] #[.slice oa p.objects.length oc, .slice ua p.updates.length uc, .bool p.force] 22 26
  have y0 := hy 0 _ rfl
  have z0 := hz 0 _ rfl
  have z1 := hz 1 _ rfl
  have z2 := hz 2 _ rfl
  have hRb := hR.below
  have hRn := hR.next
  have y01 := y0 _ hR1
  clear hy hz hl ho hu
  by_cases hc : checkStore l = 0
  case neg =>
    have HX := Lib.hid (show needsE l p = checkStore l by rw [HE.out, if_pos hc])
    have HX1 := Lib.hid (show needsL l p = [] by rw [HL.out, HX.out, if_neg hc])
    have q1 : (checkStore l == 0) = false := by simpa using hc
    have q2 : (checkStore l != 0) = true := by simpa using hc
    rw [HX.out, HX1.out]
    clear hc
    go_enter Tryz.func7, Tryz.ntmps7
    go_wp2_with fail
    refine (Hc.out _ (hRb _ hR1)).mono ?_
    rintro e w2 ⟨rfl, hb2⟩
    have hR2 := hRn _ _ hR1 hb2
    clear hb2
    go_wp2_with fail
    go_ret2
    exact ⟨_, rfl, IntsV.nil _ _ _ _ (by omega), hRb _ hR2⟩
  case pos =>
    by_cases hp : checkPsh p = 0
    case neg =>
      have HX := Lib.hid (show needsE l p = checkPsh p by rw [HE.out, if_neg (by simp [hc])])
      have HX1 := Lib.hid (show needsL l p = [] by rw [HL.out, HX.out, if_neg hp])
      have q2 : (checkPsh p != 0) = true := by simpa using hp
      rw [HX.out, HX1.out]
      rw [hc] at Hc
      clear hc hp
      go_enter Tryz.func7, Tryz.ntmps7
      go_wp2_with fail
      refine (Hc.out _ (hRb _ hR1)).mono ?_
      rintro e w2 ⟨rfl, hb2⟩
      have hR2 := hRn _ _ hR1 hb2
      have a0 := z0 _ hR2
      have a1 := z1 _ hR2
      have a2 := z2 _ hR2
      clear hb2 y01
      go_wp2_with fail
      refine (Hp.out _ (hRb _ hR2)).mono ?_
      rintro e w3 ⟨rfl, hb3⟩
      have hR3 := hRn _ _ hR2 hb3
      clear hb3
      go_wp2_with fail
      go_ret2
      exact ⟨_, rfl, IntsV.nil _ _ _ _ (by omega), hRb _ hR3⟩
    case pos =>
      have HX := Lib.hid (show needsE l p = 0 by rw [HE.out, if_neg (by simp [hc]), hp])
      have HX1 := Lib.hid (show needsL l p = uniq (needG l p) by rw [HL.out, HX.out, if_pos rfl])
      have Hri := Lib.hid (checkStore_rising hc)
      have h4 := (mvs_ok.1 (checkPsh_zero hp).2.2).many
      have Hll := Lib.hid (fun k => linksTo_length hp k)
      have Hnl := Lib.hid (fun k => newsTo_length p k h4)
      have HGd := Lib.hid (show needG l p = (linksTo p p.objects.length ++ newsTo p p.updates.length).filter (needB l p) from rfl)
      have hm := (checkPsh_zero hp).1
      rw [HX.out, HX1.out]
      rw [hc] at Hc
      rw [hp] at Hp
      clear hc hp HE HL HX HX1
      go_enter Tryz.func7, Tryz.ntmps7
      go_wp2_with fail
      refine (Hc.out _ (hRb _ hR1)).mono ?_
      rintro e w2 ⟨rfl, hb2⟩
      have hR2 := hRn _ _ hR1 hb2
      have a0 := z0 _ hR2
      have a1 := z1 _ hR2
      have a2 := z2 _ hR2
      clear hb2 y01
      go_wp2_with fail
      refine (Hp.out _ (hRb _ hR2)).mono ?_
      rintro e w3 ⟨rfl, hb3⟩
      have hR3 := hRn _ _ hR2 hb3
      have hW := hR.alloc _ (.cells #[.slice none 0 0] 32) hR3
      have a01 := z0 _ hW
      have a11 := z1 _ hW
      have b01 := y0 _ hW
      have hJ0 : w.heap.size + 1 < w3.heap.size := World.block_lt_of_cell? w3 _ (z0 _ hR3)
      have hN0 : NeedAt (fun b => b < w3.heap.size) w3.heap.size w3.heap.size (w3.alloc (.cells #[.slice none 0 0] 32)) [] :=
        ⟨.slice none 0 0, World.ownsRow_nil _ _ _ _, by simp [Value.ownBlock], fun b _ => by simp [Value.ownBlock], heap_alloc_new w3 _⟩
      have hbW := hRb _ hW
      have hszW : (w3.alloc (.cells #[.slice none 0 0] 32)).heap.size = w3.heap.size + 1 := by simp
      clear hb3 a0 a1 a2 hR1 hR2 hR3 Hc Hp z2
      have go : ∀ (J : Nat) (W : World), J = w3.heap.size → W = w3.alloc (.cells #[.slice none 0 0] 32) → True := fun _ _ _ _ => trivial
      clear go
      go_wp2_with fail
      generalize hgW : w3.alloc (.cells #[.slice none 0 0] 32) = W at *
      generalize hgJ : w3.heap.size = J at *
      clear hgW hgJ
      have HbW := Lib.hid hbW
      have Hx := Lib.hid (fun x (hx : Below J W x) => show Below w.heap.size w x from HbW.out.trans (hx.mono (by omega)))
      have HA0 := Lib.hid a01
      have HB0 := Lib.hid b01
      have Hp0 := Lib.hid (fun x (hx : Below J W x) => (hx.cell (p := ⟨w.heap.size + 1, 0, none⟩) (by show w.heap.size + 1 < J; omega)).trans HA0.out)
      have HA1 := Lib.hid a11
      have Hp1 := Lib.hid (fun x (hx : Below J W x) => (hx.cell (p := ⟨w.heap.size + 1, 1, none⟩) (by show w.heap.size + 1 < J; omega)).trans HA1.out)
      have Hl0 := Lib.hid (fun x (hx : Below J W x) => (hx.cell (p := ⟨w.heap.size, 0, none⟩) (by show w.heap.size < J; omega)).trans HB0.out)
      have HN := Lib.hid (fun (ids : List Int) (iv : Value) (S : Nat → Prop) (x : World) (xs : List Int) (hx : Below J W x) (hi : IntsV S x iv ids) (hS : ∀ b, S b → b ≠ J ∧ b < x.heap.size) (hN : NeedAt S J J x xs) (hil : xs.length + ids.length ≤ 100000) =>
        need_any l p ids _ _ iv (w.heap.size + 1) w.heap.size J J S (fun b => b < w.heap.size) (fun b => b < w.heap.size) x xs ((Hl.out.lt.weaken fun _ h => h.2).below (Hx.out x hx)) ((Ho.out.lt.weaken fun _ h => h.2).below (Hx.out x hx)) hi Hri.out
          (fun b hb => by omega) (fun b hb => by omega) hS (by omega) (by omega) (Nat.le_refl _) (Hp0.out x hx) (Hl0.out x hx) hN hil)
      clear a01 a11 b01 hbW y0 z0 z1 hRb hRn hW
      obtain ⟨m, hmm⟩ : ∃ m, m = p.objects.length := ⟨_, rfl⟩
      have Hm := Lib.hid hmm
      have hm63 : m ≤ 12 := by omega
      rw [← hmm]
      clear hmm hm
      go_loopw [26] (fun i wr => ∃ k : Nat, k ≤ m ∧ i = .int .i64 k ∧ Hid (NeedAt (fun b => b < J) J J wr ((linksTo p k).filter (needB l p))) ∧ Hid (Below J W wr)) (fun i _ => m - (intOf i).toNat)
      case atStart => exact ⟨0, by omega, rfl, hN0, Below.refl _ _⟩
      case round =>
        obtain ⟨k, hk, rfl, HK, HB⟩ := hrel
        clear hN0
        by_cases hlt : k < m
        · obtain ⟨a9, n9, c9, la9, ln9, lc9, HN9, e9, _, _, _, h49, h59⟩ := ((Ho.out.lt.weaken (S' := fun b => b < w.heap.size) fun _ h => h.2).below (Hx.out wr HB.out)).open
          cases e9
          obtain ⟨b, off, rfl, hb, k0, k1, k2, k3⟩ := h49 (by have := Hm.out; omega)
          have hkl : k < p.objects.length := by have := Hm.out; omega
          have x0 := k0 k wr hkl (Below.refl _ _)
          have x1 := k1 k wr hkl (Below.refl _ _)
          have x2 := k2 k wr hkl (Below.refl _ _)
          have x3 := k3 k wr hkl (Below.refl _ _)
          have hlk := h59 k hkl
          obtain ⟨Q, hQ, hQ1, q0, q1, q2, q3⟩ := cls_box4 wr (.int .i64 (obj p.objects k).id) (.int .i64 (obj p.objects k).kind) (.slice (la9 k) (ln9 k) (lc9 k)) (.string (obj p.objects k).text) 49
          have q21 := q2 _ hQ1
          have hBQ : Below J W (wr.alloc (.cells #[.int .i64 (obj p.objects k).id, .int .i64 (obj p.objects k).kind, .slice (la9 k) (ln9 k) (lc9 k), .string (obj p.objects k).text] 49)) :=
            HB.out.trans ((hQ.below _ hQ1).mono (by have := HB.out.size; omega))
          have hl1 := linksTo_next hkl
          have hln : (obj p.objects k).links.length ≤ 48 := by have := Hll.out (k + 1); rw [hl1, List.length_append] at this; omega
          have Hcall := Lib.hid (HN.out _ _ (fun b => b < w.heap.size) _ ((linksTo p k).filter (needB l p)) hBQ (hlk.1.below (hQ.below _ hQ1)) (fun b hb => by have := HB.out.size; have := (hQ.below _ hQ1).size; omega)
            ((HK.out.re (S' := fun b => b < w.heap.size) (fun b hb => .inl (by omega))).below (hQ.below _ hQ1)) (by have := List.length_filter_le (needB l p) (linksTo p k); have := Hll.out k; omega))
          have Hl1 := Lib.hid (show (linksTo p (k + 1)).filter (needB l p) = (linksTo p k).filter (needB l p) ++ (obj p.objects k).links.filter (needB l p) by rw [hl1, List.filter_append])
          have hi1 : (0 : Int) ≤ (k : Int) := by omega
          have hi2 : (k : Int) < (m : Int) := by omega
          have c0 := Hp0.out wr HB.out
          have HBQ := Lib.hid hBQ
          clear k0 k1 k2 k3 h49 h59 hlk hl1 hln hBQ q0 q1 q2 q3
          go_wp2_with fail
          refine Hcall.out.mono ?_
          rintro e w7 ⟨rfl, hN7, hb7⟩
          have HX := Lib.hid (And.intro (hN7.re (S' := fun b => b < J) (fun b hb => .inl hb)) (HBQ.out.trans (hb7.mono (Nat.le_refl _))))
          clear hN7 hb7
          go_wp2_with fail
          go_roundw
          case rel => exact ⟨k + 1, by omega, by go_num, by rw [Hl1.out]; exact HX.out.1, HX.out.2⟩
          case measure => simp [intOf]; omega
        · obtain rfl : k = m := by omega
          have d1 := Hp1.out wr HB.out
          obtain ⟨un, hun⟩ : ∃ un, un = p.updates.length := ⟨_, rfl⟩
          have Hun := Lib.hid hun
          have hu63 : un ≤ 4 := by omega
          go_wp2_with fail
          rw [← hun]
          clear hun
          have HK1 := Lib.hid HK.out
          go_loopw [38] (fun i wr => ∃ j : Nat, j ≤ un ∧ i = .int .i64 j ∧ Hid (NeedAt (fun b => b < J) J J wr ((linksTo p k).filter (needB l p) ++ (newsTo p j).filter (needB l p))) ∧ Hid (Below J W wr)) (fun i _ => un - (intOf i).toNat)
          case atStart => exact ⟨0, by omega, rfl, by show NeedAt _ _ _ _ _; have := HK1.out; simpa [newsTo] using this, HB.out⟩
          case round =>
            obtain ⟨j, hj, rfl, HK2, HB2⟩ := hrel
            clear d1
            by_cases hlt2 : j < un
            · obtain ⟨a9, n9, c9, HN9, e9, _, _, _, h49⟩ := (Hu.out.below (Hx.out wr HB2.out)).open
              cases e9
              have hju : j < p.updates.length := by have := Hun.out; omega
              obtain ⟨b, off, rfl, hb, k0, k1, k2⟩ := h49 (by omega)
              have x0 := k0 j wr hju (Below.refl _ _)
              have x1 := k1 j wr hju (Below.refl _ _)
              have x2 := k2 j wr hju (Below.refl _ _)
              obtain ⟨Q, hQ, hQ1, hq⟩ := cls_box wr #[.string (mv p.updates j).name, .int .i64 (mv p.updates j).old, .int .i64 (mv p.updates j).new] 46
              have q21 := hq 2 _ rfl _ hQ1
              have hBw := HB2.out.size
              have hbx : Below wr.heap.size wr ((wr.alloc (.cells #[.string (mv p.updates j).name, .int .i64 (mv p.updates j).old, .int .i64 (mv p.updates j).new] 46)).alloc (.cells #[.int .i64 (mv p.updates j).new] 3)) :=
                (hQ.below _ hQ1).trans ((Below.refl _ _).alloc (by simp) _)
              have HBx := Lib.hid (show Below J W ((wr.alloc (.cells #[.string (mv p.updates j).name, .int .i64 (mv p.updates j).old, .int .i64 (mv p.updates j).new] 46)).alloc (.cells #[.int .i64 (mv p.updates j).new] 3)) from HB2.out.trans (hbx.mono (by omega)))
              have hI := ints_new (wr.alloc (.cells #[.string (mv p.updates j).name, .int .i64 (mv p.updates j).old, .int .i64 (mv p.updates j).new] 46)) [(mv p.updates j).new] 3 (wr.heap.size + 1) (by simp) (by simp) (by intro x hx; rw [List.mem_singleton.1 hx]; exact (Hu.out.each hju).2.1)
              have hNf := (HK2.out.below (hQ.below _ hQ1)).fresh (.cells #[.int .i64 (mv p.updates j).new] 3)
              have hsz1 : (wr.alloc (.cells #[.string (mv p.updates j).name, .int .i64 (mv p.updates j).old, .int .i64 (mv p.updates j).new] 46)).heap.size = wr.heap.size + 1 := by simp
              rw [hsz1] at hNf
              have Hcall := Lib.hid (HN.out [(mv p.updates j).new] _ (fun b => b = wr.heap.size + 1) _ _ HBx.out hI (fun b hb => ⟨by have : J < W.heap.size := hszW ▸ Nat.lt_succ_self J; omega, by simp; omega⟩) hNf (by
                have := List.length_filter_le (needB l p) (linksTo p k); have := Hll.out k
                have := List.length_filter_le (needB l p) (newsTo p j); have := Hnl.out j
                rw [List.length_append, List.length_singleton]; omega))
              have Hn1 := Lib.hid (show (linksTo p k).filter (needB l p) ++ (newsTo p (j + 1)).filter (needB l p) = (linksTo p k).filter (needB l p) ++ (newsTo p j).filter (needB l p) ++ [(mv p.updates j).new].filter (needB l p) by rw [newsTo_next hju, List.filter_append, List.append_assoc])
              have hi1 : (0 : Int) ≤ (j : Int) := by omega
              have hi2 : (j : Int) < (un : Int) := by omega
              clear k0 k1 k2 h49 hI hNf hsz1 hbx hq
              go_wp2_with fail
              refine Hcall.out.mono ?_
              rintro e w7 ⟨rfl, hN7, hb7⟩
              have HX := Lib.hid (And.intro (hN7.re (S' := fun b => b < J) (fun b hb => .inl hb)) (HBx.out.trans (hb7.mono (Nat.le_refl _))))
              clear hN7 hb7
              go_wp2_with fail
              go_roundw
              case rel => exact ⟨j + 1, by omega, by go_num, by rw [Hn1.out]; exact HX.out.1, HX.out.2⟩
              case measure => simp [intOf]; omega
            · obtain rfl : j = un := by omega
              have HG := Lib.hid (show (linksTo p k).filter (needB l p) ++ (newsTo p j).filter (needB l p) = needG l p by rw [HGd.out, List.filter_append, ← Hm.out, ← Hun.out])
              have hK3 := HK2.out
              rw [HG.out] at hK3
              obtain ⟨v, hown, hvJ, _, hcJ⟩ := hK3
              have Hi64 := Lib.hid (show ∀ y ∈ uniq (needG l p), I64 y from fun y hy => by
                rw [(uniq_spec _).2, mem_needG] at hy
                rcases hy.1 with ⟨o, ho, hx⟩ | ⟨u, hu, e⟩
                · obtain ⟨i, hi, rfl⟩ := mem_obj ho
                  obtain ⟨_, _, hO⟩ := Ho.out
                  exact (hO i hi).1.2 y hx
                · rw [← e]; exact (Hu.out.2 u hu).2.1)
              have Hul := Lib.hid (uniq_length (needG l p))
              have Hgl := Lib.hid (show (needG l p).length ≤ 52 by
                rw [← HG.out, List.length_append]
                have := List.length_filter_le (needB l p) (linksTo p k); have := Hll.out k
                have := List.length_filter_le (needB l p) (newsTo p j); have := Hnl.out j
                omega)
              generalize hgx : needG l p = xs at *
              have Hgx := Lib.hid hgx
              clear hgx
              obtain ⟨va, vc, rfl⟩ := own_shape hown
              have cJ := block_cell (j := 0) hcJ rfl
              have HBw := Lib.hid (Hx.out wr HB2.out)
              have hvc : vc ≤ 9223372036854775807 := by
                rcases hown.2 with ⟨e, _⟩ | ⟨_, _, _, e, _, _, _, hm, _⟩
                · injection e with _ _ e3; omega
                · injection e with _ _ e3; subst e3; unfold maxLen at hm; omega
              by_cases h0 : xs.length = 0
              · obtain rfl : xs = [] := List.length_eq_zero_iff.1 h0
                have Hso := Lib.hid (Tryz.slices_Sort_int_none va vc wr)
                have Hco := Lib.hid (Tryz.slices_Compact_int_empty va vc wr)
                simp only [List.length_nil] at cJ
                clear hown hvJ hcJ h0
                go_wp2_with fail
                refine Hso.out.mono ?_
                rintro e w8 ⟨rfl, hw8⟩
                subst hw8
                go_wp2_with fail
                refine Hco.out.mono ?_
                rintro e w9 ⟨rfl, hw9⟩
                subst hw9
                go_wp2_with fail
                go_ret2
                exact ⟨.slice va 0 vc, rfl, by rw [Hgx.out, show uniq [] = [] from List.length_eq_zero_iff.1 (by have := uniq_length []; simp only [List.length_nil] at this; omega)]; exact IntsV.nil _ _ _ _ hvc, HBw.out⟩
              · obtain ⟨g, rfl⟩ : ∃ g, va = some ⟨g, 0, none⟩ := by
                  rcases hown.2 with ⟨_, h⟩ | ⟨g, _, _, e, _⟩
                  · exact absurd h h0
                  · cases e; exact ⟨g, rfl⟩
                obtain ⟨hH, hgw, hnc, _⟩ := own_holds hown
                have hgB := (hown.lt g rfl).1
                have hgJ : g ≠ J := fun e => hvJ (by rw [e]; rfl)
                have Hso := Lib.hid (Tryz.slices_Sort_int g 0 vc xs wr hH hgw (by have := Hgl.out; omega))
                have hsl : (xs.mergeSort fun x y => decide (x ≤ y)).length = xs.length := List.length_mergeSort xs
                have HS8 := Lib.hid (fun (w8 : World) nq os (hw8 : w8 = Go.Sort.grow (Go.Sort.putRow (Value.int .i64) (Go.Sort.ahead wr nq) g 0 (xs.mergeSort fun x y => decide (x ≤ y)).toArray) os) =>
                  show Go.Sort.Holds (Value.int .i64) w8 g 0 (xs.mergeSort fun x y => decide (x ≤ y)).toArray ∧ Upd (fun b => b = g) wr w8 from by
                  subst hw8
                  refine ⟨Go.Sort.holds_grow _ _ _ _ _ _ (by simp [Go.Sort.ahead]; exact hgw) (Go.Sort.holds_putRow _ _ _ _ xs.toArray _ (Go.Sort.holds_ahead _ _ _ _ _ _ hH) (by simp [hsl])), ?_⟩
                  exact (((upd_ahead wr nq).weaken (T' := fun b => b = g) (fun _ _ h => h.elim)).trans (upd_mapBlock _ g _) (fun _ _ h => h)).trans (upd_grow _ os) (fun _ _ h => h.elim))
                have HS9 := Lib.hid (fun (w8 w9 : World) q (h8 : Go.Sort.Holds (Value.int .i64) w8 g 0 (xs.mergeSort fun x y => decide (x ≤ y)).toArray) (hu8 : Upd (fun b => b = g) wr w8)
                  (hw9 : w9 = Go.Sort.putRow (Value.int .i64) (Go.Sort.ahead w8 q) g 0 (Lib.compact (xs.mergeSort fun x y => decide (x ≤ y)) ++ List.replicate ((xs.mergeSort fun x y => decide (x ≤ y)).length - (Lib.compact (xs.mergeSort fun x y => decide (x ≤ y))).length) 0).toArray) =>
                  show IntsV (fun _ => True) w9 (.slice (some ⟨g, 0, none⟩) (uniq xs).length vc) (uniq xs) ∧ Below w.heap.size w w9 from by
                  subst hw9
                  have hul := Hul.out
                  have hgl := Hgl.out
                  have hcl := Lib.compact_length_le (xs.mergeSort fun x y => decide (x ≤ y))
                  have hcl2 : (Lib.compact (xs.mergeSort fun x y => decide (x ≤ y))).length = (uniq xs).length := rfl
                  refine ⟨(holds_ints (ys := uniq xs) (Go.Sort.holds_putRow _ _ _ _ (xs.mergeSort fun x y => decide (x ≤ y)).toArray _ (Go.Sort.holds_ahead _ _ _ _ _ _ h8) (by simp; omega)) (by omega) hvc (by omega) Hi64.out).weaken fun _ _ => trivial, ?_⟩
                  exact HBw.out.trans ((hu8.trans (((upd_ahead w8 q).weaken (T' := fun b => b = g) (fun _ _ h => h.elim)).trans (upd_mapBlock _ g _) (fun _ _ h => h)) (fun _ _ h => h)).below (HBw.out.size) (fun b hb => by omega)))
                have Hco := Lib.hid (fun w8 (h8 : Go.Sort.Holds (Value.int .i64) w8 g 0 (xs.mergeSort fun x y => decide (x ≤ y)).toArray) => by
                  have := Tryz.slices_Compact_int g 0 vc (xs.mergeSort fun x y => decide (x ≤ y)) w8 h8 (by rw [hsl]; have := Hgl.out; omega) (by rw [hsl]; exact hnc)
                  rw [show (Value.slice (some ⟨g, 0, none⟩) (xs.mergeSort fun x y => decide (x ≤ y)).length vc) = .slice (some ⟨g, 0, none⟩) xs.length vc by rw [hsl]] at this
                  exact this)
                have HJ8 := Lib.hid (fun w8 (hu8 : Upd (fun b => b = g) wr w8) => block_cell (w := w8) (j := 0) (hu8.blk hcJ (fun e => hgJ e.symm)) rfl)
                have Huq := Lib.hid (show Lib.compact (xs.mergeSort fun x y => decide (x ≤ y)) = uniq xs from rfl)
                clear hown hvJ hcJ h0 hH hsl hgw
                go_wp2_with fail
                refine Hso.out.mono ?_
                rintro e w8 ⟨rfl, nq, os, hw8⟩
                obtain ⟨h8, hu8⟩ := HS8.out w8 nq os hw8
                have c8 := HJ8.out w8 hu8
                have Hc8 := Lib.hid (Hco.out w8 h8)
                have Hn8 := Lib.hid (fun w9 q h9 => HS9.out w8 w9 q h8 hu8 h9)
                clear hw8 h8 hu8 cJ
                go_wp2_with fail
                refine Hc8.out.mono ?_
                rintro e w9 ⟨rfl, q, hw9⟩
                have HX := Lib.hid (Hn8.out w9 q hw9)
                rw [Huq.out]
                clear hw9
                go_wp2_with fail
                go_ret2
                exact ⟨.slice (some ⟨g, 0, none⟩) (uniq xs).length vc, rfl, by rw [Hgx.out]; exact HX.out.1, HX.out.2⟩
end Go.Proofs.YtemdnkoknjmheaaGreat
