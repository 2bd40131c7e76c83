
/- Walks: what a push needs: the closure, Needs, the reference's NeedsOf. -/
import Derived.Test.YtemdnkoknjmheaaGreatNeedP
import Derived.Test.YtemdnkoknjmheaaGreatShelf
namespace Go.Proofs.YtemdnkoknjmheaaGreat
open Go.RowKit
set_option linter.unusedVariables false
set_option linter.unusedSimpArgs false

/-- the first for which p holds, or -1 -/
def idxPO (p : Obj → Bool) (l : List Obj) : Int := match l.findIdx? p with | some i => (i : Int) | none => -1
theorem idxPO_hit {l : List Obj} {p : Obj → Bool} {k : Nat} (h : ∀ j, j < k → p (obj l j) = false) (hk : k < l.length) (he : p (obj l k) = true) : idxPO p l = k := by
  unfold idxPO
  have : l.findIdx? p = some k := by
    rw [List.findIdx?_eq_some_iff_getElem]
    refine ⟨hk, by rw [← obj_lt hk]; exact he, fun j hj => ?_⟩
    have := h j hj
    rw [obj_lt (by omega)] at this
    simp [this]
  rw [this]
theorem idxPO_none {l : List Obj} {p : Obj → Bool} (h : ∀ j, j < l.length → p (obj l j) = false) : idxPO p l = -1 := by
  unfold idxPO
  have : l.findIdx? p = none := by
    rw [List.findIdx?_eq_none_iff]
    intro x hx
    obtain ⟨i, hi, rfl⟩ := List.getElem_of_mem hx
    have := h i hi
    rwa [obj_lt hi] at this
  rw [this]
theorem idxPO_cases (p : Obj → Bool) (l : List Obj) : (idxPO p l = -1 ∧ ∀ j, j < l.length → p (obj l j) = false) ∨ ∃ k, k < l.length ∧ idxPO p l = (k : Int) ∧ p (obj l k) = true := by
  unfold idxPO
  cases h : l.findIdx? p with
  | none =>
    rw [List.findIdx?_eq_none_iff] at h
    exact .inl ⟨rfl, fun j hj => by rw [obj_lt hj]; exact h _ (List.getElem_mem hj)⟩
  | some k =>
    rw [List.findIdx?_eq_some_iff_getElem] at h
    obtain ⟨hk, he, _⟩ := h
    exact .inr ⟨k, hk, rfl, by rw [obj_lt hk]; exact he⟩

/-- a function value that asks p of the objects of l, in whatever world comes behind w -/
def AsksO (g : Nat) (c : Value) (p : Obj → Bool) (w : World) (l : List Obj) : Prop :=
  ∀ (x : World) (i : Nat) (lv : Value) (S : Nat → Prop), i < l.length → Below w.heap.size w x → ObjIs S x (obj l i) lv → Calls Tryz.prog g #[.agg #[.int .i64 (obj l i).id, .int .i64 (obj l i).kind, lv, .string (obj l i).text], c] x fun e w' => e = .returned (.bool (p (obj l i))) ∧ Below x.heap.size x w'

set_option maxHeartbeats 1000000 in
theorem indexFuncO_any (l : List Obj) (v c : Value) (S : Nat → Prop) (g : Nat) (p : Obj → Bool) (w : World) (h : StoreV S w v l) (eg : ∀ args w, (callFunc g args).run Tryz.prog w = .ok (.enter g args) w) (hp : AsksO g c p w l) :
    Calls Tryz.prog 49 #[v, .func (.func g) #[] #[c]] w fun e w' => e = .returned (.int .i64 (idxPO p l)) ∧ Below w.heap.size w w' := by
  obtain ⟨a, n, cap, la, ln, lc, HN, rfl, h1, h2, h3, h4, h5⟩ := h.open
  clear h
  obtain ⟨R, hR, hR1, _⟩ := cls_plain w
  have hRb := hR.below
  have hRn := hR.next
  have Hp := Lib.hid (fun x k (hk : k < n) hx => hp x k _ _ (by rw [← HN.out.1]; exact hk) hx ((h5 k hk).below hx)); clear hp h5
  have Hh := Lib.hid (fun k h1 hk he => idxPO_hit (l := l) (p := p) (k := k) h1 (by rw [← HN.out.1]; exact hk) he)
  have Hn := Lib.hid (fun h1 => idxPO_none (l := l) (p := p) (by rw [← HN.out.1]; exact h1))
  go_enter Tryz.func49, Tryz.ntmps49
  go_wp2_with fail
  go_loopw [8] (fun i wr => ∃ k : Nat, k ≤ n ∧ i = .int .i64 k ∧ Hid (∀ j, j < k → p (obj l j) = false) ∧ In R wr) (fun i _ => n - (intOf i).toNat)
  case atStart => exact ⟨0, by omega, rfl, fun j hj => absurd hj (by omega), hR1⟩
  case round =>
    obtain ⟨k, hk, rfl, Hs, hRw⟩ := hrel
    clear hR1
    by_cases hlt : k < n
    · obtain ⟨b, off, rfl, hb, k0, k1, k2, k3⟩ := h4 (by omega)
      have x0 := k0 k wr hlt (hRb _ hRw)
      have x1 := k1 k wr hlt (hRb _ hRw)
      have x2 := k2 k wr hlt (hRb _ hRw)
      have x3 := k3 k wr hlt (hRb _ hRw)
      clear h4 k0 k1 k2 k3
      cases hq : p (obj l k)
      · have He := Lib.hid hq
        go_wp2_with fail
        refine (Hp.out _ k hlt (hRb _ hRw)).mono ?_
        rintro e w' ⟨rfl, hb2⟩
        rw [hq]
        have hR2 := hRn _ _ hRw hb2
        go_wp2_with fail
        go_roundw
        case rel => exact ⟨k + 1, by omega, by go_num, all_next Hs.out He.out, hR2⟩
        case measure => simp [intOf]; omega
      · have HK := Lib.hid (Hh.out k Hs.out hlt hq)
        go_wp2_with fail
        refine (Hp.out _ k hlt (hRb _ hRw)).mono ?_
        rintro e w' ⟨rfl, hb2⟩
        rw [hq]
        have hR2 := hRn _ _ hRw hb2
        go_wp2_with fail
        go_ret
        exact ⟨ret_int HK.out.symm, hRb _ hR2⟩
    · obtain rfl : k = n := by omega
      have HK := Lib.hid (Hn.out Hs.out)
      go_wp2_with fail
      go_ret
      exact ⟨ret_int HK.out.symm, hRb _ hRw⟩

set_option maxHeartbeats 400000 in
theorem containsFuncO_any (l : List Obj) (v c : Value) (S : Nat → Prop) (g : Nat) (p : Obj → Bool) (w : World) (h : StoreV S w v l) (eg : ∀ args w, (callFunc g args).run Tryz.prog w = .ok (.enter g args) w) (hp : AsksO g c p w l) :
    Calls Tryz.prog 25 #[v, .func (.func g) #[] #[c]] w fun e w' => e = .returned (.bool (l.any p)) ∧ Below w.heap.size w w' := by
  obtain ⟨q1, q2, rfl⟩ := h.vshape
  have Hi := Lib.hid (indexFuncO_any l _ c S g p w h eg hp)
  rcases idxPO_cases p l with ⟨h0, h1⟩ | ⟨k, hk, h0, h1⟩
  · have Ha := Lib.hid (show l.any p = false by
      rw [List.any_eq_false]
      intro x hx
      obtain ⟨i, hi, rfl⟩ := List.getElem_of_mem hx
      have := h1 i hi
      rw [obj_lt hi] at this
      simp [this])
    clear h1 hp
    go_enter Tryz.func25, Tryz.ntmps25
    go_wp2_with fail
    refine Hi.out.mono ?_
    rintro e w' ⟨rfl, hb⟩
    rw [h0]
    go_wp2_with fail
    go_ret
    exact ⟨by rw [Ha.out]; rfl, hb⟩
  · have Ha := Lib.hid (show l.any p = true by
      rw [List.any_eq_true]
      exact ⟨obj l k, by rw [obj_lt hk]; exact List.getElem_mem hk, h1⟩)
    have hd : decide ((0 : Int) ≤ (k : Int)) = true := by simp
    clear h1 hp
    go_enter Tryz.func25, Tryz.ntmps25
    go_wp2_with fail
    refine Hi.out.mono ?_
    rintro e w' ⟨rfl, hb⟩
    rw [h0]
    go_wp2_with fail
    go_ret
    exact ⟨by rw [Ha.out]; first | rfl | simp, hb⟩


set_option maxHeartbeats 400000 in
theorem needs11_any (o : Obj) (lv : Value) (S : Nat → Prop) (id : Int) (a : Addr) (w : World) (ha : a.spot = none) (ho : ObjIs S w o lv) (hc : w.cell? a = some (.int .i64 id)) :
    Calls Tryz.prog 26 #[.agg #[.int .i64 o.id, .int .i64 o.kind, lv, .string o.text], .pointer (some a)] w fun e w' => e = .returned (.bool (o.id == id)) ∧ Below w.heap.size w w' := by
  obtain ⟨b, off, sp⟩ := a
  simp only at ha
  subst ha
  obtain ⟨⟨p1, c1⟩, rfl⟩ := ho.1.shape
  obtain ⟨R, hR, hR1, hx, _, _, _⟩ := cls_box4 w (.int .i64 o.id) (.int .i64 o.kind) (.slice p1 o.links.length c1) (.string o.text) 49
  have hx0 := hx _ hR1
  have hc2 := below_cell (hR.below _ hR1) hc
  have hbw := hR.below _ hR1
  clear hx hR1 hR hc ho
  generalize hq : (o.id == id) = q
  go_enter Tryz.func26, Tryz.ntmps26
  go_wp2_with fail
  go_ret
  exact ⟨rfl, hbw⟩

/-- 'append(out, z)' of one number; where the row lies behind it -/
theorem wpList_append_int2 {ops : Array Oper} {rest : List Oper} {o : Oper} {a : Act} {w : World} {Q : Exit → Act → World → Prop} (hgd : o.guard = none) (s x : Operand)
    (ho : o.op = .call { callee := .builtin .append, args := #[s, x], argTypes := #[32, 32] }) {B n : Nat} {v : Value} {xs : List Value} {z : Int}
    (hG : w.ownsRow B 3 1 v n xs) (hl : (n + 1) * 8 ≤ 140737488351232) (hB : B ≤ w.heap.size)
    (hs : a.eval s = v) {N : Nat} (hx : a.eval x = .slice (some ⟨N, 0, none⟩) 1 1) (hN : N = w.heap.size)
    (h : ∀ v' w', w'.ownsRow B 3 1 v' (n + 1) (xs ++ [.int .i64 z]) → Upd (fun b => v.ownBlock = some b) w w' → (v'.ownBlock = v.ownBlock ∨ v'.ownBlock = some (w.heap.size + 1)) → wpList Tryz.prog ops Q rest (a.put o.dst v') w') :
    wpList Tryz.prog ops Q (o :: rest) a (w.alloc (.cells #[.int .i64 z] 3)) := by
  subst hN
  obtain ⟨i0, hi, hz0, hz1, hz2⟩ := info_parts Tryz.infoInt
  refine wpList_append_own_at _ hgd s x 32 ho B 3 i0 _ 1 8 Tryz.underlying32 hi hz0 hz1 hz2 rfl (by decide) v n _ hs (hG.alloc _) ⟨w.heap.size, 0, none⟩ 1 1 [.int .i64 z] hx rfl
    (World.news_of_block (cs := #[.int .i64 z]) (t := 3) (fr := (0, 0)) (heap_alloc_new w _)) ?_ ?_ (by omega) (by simp; omega) ?_
  · intro u hu
    simp only [List.mem_cons, List.not_mem_nil, or_false] at hu
    subst hu; rfl
  · unfold maxLen; omega
  · intro v' w' hown' hgrow _ hat
    exact h v' w' hown' (Upd.grown ((Upd.refl _ _).alloc _) hgrow (fun k hk _ => hk)) (by simpa using hat)

/-- numbers gathered in block J's slice; the blocks of S lie apart -/
def NeedAt (S : Nat → Prop) (B J : Nat) (w : World) (xs : List Int) : Prop :=
  ∃ v, w.ownsRow B 3 1 v xs.length (xs.map (Value.int .i64)) ∧ v.ownBlock ≠ some J ∧ (∀ b, S b → v.ownBlock ≠ some b) ∧ w.heap[J]? = some (.cells #[v] 32 (0, 0))
theorem NeedAt.below {S : Nat → Prop} {B J : Nat} {w w' : World} {xs : List Int} (h : NeedAt S B J w xs) (hb : Below w.heap.size w w') : NeedAt S B J w' xs := by
  obtain ⟨v, h1, h2, h3, h4⟩ := h
  exact ⟨v, own_below h1 hb, h2, h3, (hb.block _ (lt_of_block h4)).trans h4⟩

theorem need_end {S : Nat → Prop} {B J : Nat} {w xo w9 : World} {v v' : Value} {xs : List Int} {z : Int} (hB : B ≤ J) (hJw : J < w.heap.size) (hSw : ∀ b, S b → b < w.heap.size) (hown : w.ownsRow B 3 1 v xs.length (xs.map (Value.int .i64))) (hvJ : v.ownBlock ≠ some J) (hvS : ∀ b, S b → v.ownBlock ≠ some b)
    (hcJ : w.heap[J]? = some (.cells #[v] 32 (0, 0))) (hb : Below w.heap.size w xo) (hG : w9.ownsRow B 3 1 v' (xs.length + 1) (xs.map (Value.int .i64) ++ [.int .i64 z])) (hu : Upd (fun b => v.ownBlock = some b) xo w9) (hat : v'.ownBlock = v.ownBlock ∨ v'.ownBlock = some (xo.heap.size + 1)) :
    NeedAt S B J (w9.setCell ⟨J, 0, none⟩ v') (xs ++ [z]) ∧ Below B w (w9.setCell ⟨J, 0, none⟩ v') := by
  have h1 := hb.size
  have hJ9 : w9.heap[J]? = some (.cells #[v] 32 (0, 0)) := hu.blk ((hb.block _ hJw).trans hcJ) hvJ
  have hu2 : Upd (fun b => b = J) w9 (w9.setCell ⟨J, 0, none⟩ v') := (Upd.refl (fun b => b = J) w9).setCell (p := ⟨J, 0, none⟩) (fun _ => rfl) _
  have hv' : v'.ownBlock ≠ some J := by
    rcases hat with h | h
    · rw [h]; exact hvJ
    · rw [h]; intro e; cases e; omega
  have hvS' : ∀ b, S b → v'.ownBlock ≠ some b := fun b hS => by
    rcases hat with h | h
    · rw [h]; exact hvS b hS
    · rw [h]; intro e; cases e; have := hSw _ hS; omega
  refine ⟨⟨v', ?_, hv', hvS', block_setCell (j := 0) hJ9 v'⟩, ?_⟩
  · rw [List.length_append, List.length_singleton, List.map_append]
    exact own_upd hG hu2 (fun g hg e => hv' (by rw [hg, e]))
  · exact (hb.mono (by omega)).trans ((hu.below (by omega) (fun b hb => (hown.lt b hb).1)).trans (hu2.below (B := B) (by have := hu.size; omega) (fun b e => by omega)))

theorem upd_ints {T S : Nat → Prop} {w w' : World} {v : Value} {xs : List Int} (h : IntsV S w v xs) (hu : Upd T w w') (hS : ∀ b, S b → b < w.heap.size) (hT : ∀ b, S b → ¬ T b) : IntsV S w' v xs :=
  h.same fun b hb => hu.block b (hS b hb) (hT b hb)

set_option maxRecDepth 100000 in
set_option maxHeartbeats 4000000 in
theorem need_any (l : List Obj) (p : Psh) (ids : List Int) (pv lv iv : Value) (pb lb J B : Nat) (S S1 S2 : Nat → Prop) (w : World) (xs : List Int) (hl : StoreV S1 w lv l) (hp : StoreV S2 w pv p.objects) (hi : IntsV S w iv ids) (hr : Rising l)
    (h1 : ∀ b, S1 b → b < B) (h2 : ∀ b, S2 b → b < B) (hS : ∀ b, S b → b ≠ J ∧ b < w.heap.size) (hpb : pb < B) (hlb : lb < B) (hB : B ≤ J)
    (hcp : w.cell? ⟨pb, 0, none⟩ = some pv) (hcl : w.cell? ⟨lb, 0, none⟩ = some lv) (hN : NeedAt S B J w xs) (hil : xs.length + ids.length ≤ 100000) :
    Calls Tryz.prog 24 #[iv, .pointer (some ⟨pb, 0, none⟩), .pointer (some ⟨lb, 0, none⟩), .pointer (some ⟨J, 0, none⟩)] w
      fun e w' => e = .returned (.tuple #[]) ∧ NeedAt S B J w' (xs ++ ids.filter (needB l p)) ∧ Below B w w' := by
  have hmf : ∀ (fn : Fn) (first cap : Array Value) (w : World), (Instr.makeFunc fn first cap).run Tryz.prog w = .ok (.func fn first cap) w := fun _ _ _ _ => rfl
  have Hpo := Lib.hid (fun x (hx : Below B w x) => hp.same (w' := x) fun b hb => hx.block b (h2 b hb))
  have Hlo := Lib.hid (fun x (hx : Below B w x) => hl.same (w' := x) fun b hb => hx.block b (h1 b hb))
  have Hcp := Lib.hid (fun x (hx : Below B w x) => (hx.cell (p := ⟨pb, 0, none⟩) hpb).trans hcp)
  have Hcl := Lib.hid (fun x (hx : Below B w x) => (hx.cell (p := ⟨lb, 0, none⟩) hlb).trans hcl)
  obtain ⟨pa, pc, rfl⟩ := hp.vshape
  obtain ⟨la, lc, rfl⟩ := hl.vshape
  obtain ⟨⟨ia, ic⟩, rfl⟩ := hi.shape
  obtain ⟨n, hn⟩ : ∃ n, n = ids.length := ⟨_, rfl⟩
  have h63 : n ≤ 100000 := by omega
  have HI0 := Lib.hid hi
  rw [← hn]
  rw [← hn] at HI0 hil
  have Hn := Lib.hid hn
  have Hri := Lib.hid hr
  have HS := Lib.hid hS
  clear hn hi hp hl hcp hcl h1 h2 hr hS
  have hNl := hN
  go_enter Tryz.func24, Tryz.ntmps24
  go_wp2_with fail
  go_loopw [10] (fun i wr => ∃ k : Nat, k ≤ n ∧ i = .int .i64 k ∧ Hid (NeedAt S B J wr (xs ++ (ids.take k).filter (needB l p))) ∧ Hid (IntsV S wr (.slice ia n ic) ids) ∧ Hid (w.heap.size ≤ wr.heap.size ∧ Below B w wr)) (fun i _ => n - (intOf i).toNat)
  case atStart => exact ⟨0, by omega, rfl, by show NeedAt S B J w _; simpa using hNl, HI0.out, Nat.le_refl _, Below.refl _ _⟩
  case round =>
    obtain ⟨k, hk, rfl, HN, HI, HB⟩ := hrel
    clear hNl hN
    have Hfl := Lib.hid (show (xs ++ (ids.take k).filter (needB l p)).length ≤ 100000 by
      rw [List.length_append]
      have := List.length_filter_le (needB l p) (ids.take k)
      rw [List.length_take] at this
      have := Hn.out
      omega)
    by_cases hlt : k < n
    · obtain ⟨a9, n9, c9, HN9, e9, _, _, _, h49⟩ := HI.out.open
      cases e9
      obtain ⟨b, off, rfl, hSb, k0⟩ := h49 (by omega)
      have x0 := k0 k wr hlt (Below.refl _ _)
      have Htk := Lib.hid (show (ids.take (k + 1)).filter (needB l p) = (ids.take k).filter (needB l p) ++ (if needB l p (nth ids k) then [nth ids k] else []) by
        rw [List.take_succ_eq_append_getElem (by have := Hn.out; omega), List.filter_append, nth_lt (by have := Hn.out; omega)]
        congr 1
        cases e : needB l p ids[k] <;> simp [e])
      clear k0 h49
      obtain ⟨v, hown, hvJ, hvS, hcJ⟩ := HN.out
      obtain ⟨va, vc, rfl⟩ := own_shape hown
      obtain ⟨vn, hvn⟩ : ∃ vn, vn = (xs ++ (ids.take k).filter (needB l p)).length := ⟨_, rfl⟩
      rw [← hvn] at hown hvJ hvS hcJ
      have Hvn := Lib.hid hvn
      have hJw := lt_of_block hcJ
      obtain ⟨Q, hQ, hQ1, hy⟩ := cls_box wr #[.int .i64 (nth ids k)] 3
      have y0 := hy 0 _ rfl
      clear hy
      have hQb := hQ.below
      have hQn := hQ.next
      have y01 := y0 _ hQ1
      have cJ := fun x (hx : In Q x) => block_cell (w := x) (j := 0) ((hQb x hx).block _ hJw |>.trans hcJ) rfl
      have fJ := fun x (hx : In Q x) => block_free (w := x) (j := 0) ((hQb x hx).block _ hJw |>.trans hcJ)
      have HBx := Lib.hid (fun x (hx : In Q x) => show Below B w x from HB.out.2.trans ((hQb x hx).mono (by have := HB.out.1; omega)))
      have c0 := fun x (hx : In Q x) => Hcp.out x (HBx.out x hx)
      have c1 := fun x (hx : In Q x) => Hcl.out x (HBx.out x hx)
      have c01 := c0 _ hQ1
      have Hct := Lib.hid (fun x (hx : In Q x) => containsFuncO_any p.objects _ (.pointer (some ⟨wr.heap.size, 0, none⟩)) _ 26 (fun o => o.id == nth ids k) x (Hpo.out x (HBx.out x hx)) (fun _ _ => rfl)
        (fun z i lv2 S9 hi9 hz hO => needs11_any _ _ S9 _ ⟨wr.heap.size, 0, none⟩ z rfl hO (y0 _ (hQn _ _ hx hz))))
      have Hkd := Lib.hid (fun x (hx : In Q x) => kind_any l _ _ (nth ids k) x (Hlo.out x (HBx.out x hx)) Hri.out)
      have Hnb := Lib.hid (show needB l p (nth ids k) = ((nth ids k != 0) && !(p.objects.any fun o => o.id == nth ids k) && (kindOf l (nth ids k) == 0)) from rfl)
      have HE := Lib.hid (fun w9 v' xo (hxo : In Q xo) hG9 hu9 hat9 => need_end (z := nth ids k) (v' := v') (xo := xo) (w9 := w9) (S := S) hB hJw (fun b hb => by have := (HS.out b hb).2; have := HB.out.1; omega) (by rw [← hvn]; exact hown) hvJ hvS hcJ (hQb _ hxo) hG9 hu9 hat9)
      have HIn := Lib.hid (fun x (hx : In Q x) => show IntsV S x (.slice (some ⟨b, off, none⟩) n ic) ids from HI.out.below (hQb x hx))
      have HJ9 := Lib.hid (fun xo w9 (hxo : In Q xo) (hu9 : Upd (fun b => (Value.slice va vn vc).ownBlock = some b) xo w9) => hu9.blk (((hQb _ hxo).block _ hJw).trans hcJ) hvJ)
      have hi1 : (0 : Int) ≤ (k : Int) := by omega
      have hi2 : (k : Int) < (n : Int) := by omega
      clear hvn
      generalize hid : nth ids k = id at *
      have part : ∀ (f : Bool), needB l p id = f → f = false → ∀ x, In Q x → NeedAt S B J x (xs ++ (ids.take (k + 1)).filter (needB l p)) := fun f h1 h2 x hx => by
        rw [Htk.out, h1, h2]; simp only [Bool.false_eq_true, if_false, List.append_nil]
        exact HN.out.below (hQb x hx)
      have Part := Lib.hid part
      clear part
      cases hct : (p.objects.any fun o => o.id == id)
      all_goals rw [hct] at Hct Hnb
      · by_cases h0 : id = 0
        · have q0 : (id != 0) = false := by simpa using h0
          have Hno := Lib.hid (show needB l p id = false by rw [Hnb.out, q0]; rfl)
          clear h0
          go_wp2_with fail
          refine (Hct.out _ hQ1).mono ?_
          rintro e w2 ⟨rfl, hb2⟩
          have hQ2 := hQn _ _ hQ1 hb2
          have y02 := y0 _ hQ2
          clear hb2 y01 c01
          go_wp2_with fail
          go_roundw
          case rel => exact ⟨k + 1, by omega, by go_num, Part.out _ Hno.out rfl _ hQ2, HIn.out _ hQ2, by have := (hQb _ hQ2).size; have := HB.out.1; omega, HBx.out _ hQ2⟩
          case measure => simp [intOf]; omega
        · have q0 : (id != 0) = true := by simpa using h0
          by_cases hkd : kindOf l id = 0
          · have q1 : (kindOf l id == 0) = true := by simpa using hkd
            have Hyes := Lib.hid (show needB l p id = true by rw [Hnb.out, q0, q1]; rfl)
            rw [hkd] at Hkd
            clear h0 hkd q1
            go_wp2_with fail
            refine (Hct.out _ hQ1).mono ?_
            rintro e w2 ⟨rfl, hb2⟩
            have hQ2 := hQn _ _ hQ1 hb2
            have y02 := y0 _ hQ2
            have c12 := c1 _ hQ2
            clear hb2 y01 c01
            go_wp2_with fail
            refine (Hkd.out _ hQ2).mono ?_
            rintro e w3 ⟨rfl, hb3⟩
            have hQ3 := hQn _ _ hQ2 hb3
            have y03 := y0 _ hQ3
            have j3 := cJ _ hQ3
            have hown3 := own_below hown (hQb _ hQ3)
            have hsz3 : B ≤ w3.heap.size := by have := (hQb _ hQ3).size; omega
            clear hb3 y02 c12
            go_wp2_with (at_builtin; refine wpList_append_int2 rfl _ _ rfl hown3 (by have := Hfl.out; have := Hvn.out; omega) hsz3 rfl rfl (by first | rfl | simp) ?_)
            intro v' w9 hG9 hu9 hat9
            have Hend := Lib.hid (HE.out w9 v' w3 hQ3 (by rw [← Hvn.out, List.map_append, List.append_assoc]; exact hG9) hu9 hat9)
            have hJ9 := HJ9.out _ _ hQ3 hu9
            have cJ9 := block_cell (j := 0) hJ9 rfl
            have fJ9 := block_free (j := 0) hJ9
            have HI9 := Lib.hid (show IntsV S (w9.setCell ⟨J, 0, none⟩ v') (.slice (some ⟨b, off, none⟩) n ic) ids from
              upd_ints (upd_ints (HIn.out _ hQ3) hu9 (fun b hb => by have := (HS.out b hb).2; have := HB.out.1; have := (hQb _ hQ3).size; omega) (fun b hb e => hvS b hb e)) ((Upd.refl (fun b => b = J) w9).setCell (p := ⟨J, 0, none⟩) (fun _ => rfl) v') (fun b hb => by have := (HS.out b hb).2; have := HB.out.1; have := (hQb _ hQ3).size; have := hu9.size; omega) (fun b hb e => (HS.out b hb).1 e))
            obtain ⟨pv9, hpv9⟩ : ∃ p : Option Addr × Nat × Nat, v' = .slice p.1 p.2.1 p.2.2 := let ⟨a, c, h⟩ := own_shape hG9; ⟨(a, _, c), h⟩
            have hsz9 : w.heap.size ≤ w9.heap.size := by have := HB.out.1; have := (hQb _ hQ3).size; have := hu9.size; omega
            clear hG9 hu9 hat9 hJ9 hown3
            subst hpv9
            go_wp2_with fail
            go_roundw
            case rel => exact ⟨k + 1, by omega, by go_num, by rw [Htk.out, Hyes.out, if_pos rfl, ← List.append_assoc]; exact Hend.out.1, HI9.out, by simp [World.setCell]; exact hsz9, (HB.out.2).trans Hend.out.2⟩
            case measure => simp [intOf]; omega
          · have q1 : (kindOf l id == 0) = false := by simpa using hkd
            have Hno := Lib.hid (show needB l p id = false by rw [Hnb.out, q0, q1]; rfl)
            clear h0 hkd
            go_wp2_with fail
            refine (Hct.out _ hQ1).mono ?_
            rintro e w2 ⟨rfl, hb2⟩
            have hQ2 := hQn _ _ hQ1 hb2
            have y02 := y0 _ hQ2
            have c12 := c1 _ hQ2
            clear hb2 y01 c01
            go_wp2_with fail
            refine (Hkd.out _ hQ2).mono ?_
            rintro e w3 ⟨rfl, hb3⟩
            have hQ3 := hQn _ _ hQ2 hb3
            clear hb3 y02 c12
            go_wp2_with fail
            go_roundw
            case rel => exact ⟨k + 1, by omega, by go_num, Part.out _ Hno.out rfl _ hQ3, HIn.out _ hQ3, by have := (hQb _ hQ3).size; have := HB.out.1; omega, HBx.out _ hQ3⟩
            case measure => simp [intOf]; omega
      · have Hno := Lib.hid (show needB l p id = false by rw [Hnb.out]; simp)
        cases q0 : (id != 0)
        all_goals
          go_wp2_with fail
          refine (Hct.out _ hQ1).mono ?_
          rintro e w2 ⟨rfl, hb2⟩
          have hQ2 := hQn _ _ hQ1 hb2
          have y02 := y0 _ hQ2
          clear hb2 y01 c01
          go_wp2_with fail
          go_roundw
          case rel => exact ⟨k + 1, by omega, by go_num, Part.out _ Hno.out rfl _ hQ2, HIn.out _ hQ2, by have := (hQb _ hQ2).size; have := HB.out.1; omega, HBx.out _ hQ2⟩
          case measure => simp [intOf]; omega
    · obtain rfl : k = n := by omega
      have HX := Lib.hid (show ids.take k = ids by rw [Hn.out]; exact List.take_length)
      go_wp2_with fail
      go_end0
      exact ⟨rfl, by have := HN.out; rw [HX.out] at this; exact this, HB.out.2⟩
end Go.Proofs.YtemdnkoknjmheaaGreat
