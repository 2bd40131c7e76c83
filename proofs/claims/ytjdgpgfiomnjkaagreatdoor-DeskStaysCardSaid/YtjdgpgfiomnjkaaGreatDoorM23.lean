
/- DeskB: walks of desk.clerk.with, do$1. -/
import Derived.Test.YtjdgpgfiomnjkaaGreatDoorM22
namespace Go.Proofs.YtjdgpgfiomnjkaaGreatDoor
open Go.RowKit
set_option linter.unusedVariables false
set_option linter.unusedSimpArgs false
theorem setCellsD (g o : Nat) (v0 v1 v2 v3 v4 v5 v6 : Value) (w : World) : w.setCells g o [v0, v1, v2, v3, v4, v5, v6] = ((((((w.setCell ⟨g, o, none⟩ v0).setCell ⟨g, o + 1, none⟩ v1).setCell ⟨g, o + 2, none⟩ v2).setCell ⟨g, o + 3, none⟩ v3).setCell ⟨g, o + 4, none⟩ v4).setCell ⟨g, o + 5, none⟩ v5).setCell ⟨g, o + 6, none⟩ v6 := rfl
set_option maxRecDepth 100000 in
set_option maxHeartbeats 16000000 in
theorem clerkWith_any (K gf i : Nat) (sa : Option Addr) (sc : Nat) (told : Bool) (caps : Array Value) (l : List Rep) (R2 : Rep) (E : Int) (S : Nat → Prop) (Bx : World → Prop) (w : World) (hK : w.heap[K]? = some (.cells #[.slice sa 3 sc, .bool told] 145 (0, 0))) (h : RepsV S w (.slice sa 3 sc) l) (hl : l.length = 3) (hi : i < 3)
  (hb0 : Bx w) (hbb : ∀ x z, Bx x → Below x.heap.size x z → Bx z) (eg : ∀ args w, (callFunc gf args).run Tryz.prog w = .ok (.enter gf args) w)
  (hY : ∀ x sv rv ov uv (S2 : Nat → Prop), Bx x → RepIs S2 x (rep l i) sv rv ov uv → Calls Tryz.prog gf (#[repV (rep l i) sv rv ov uv] ++ caps) x fun e z => RetRepF x z e R2 E) :
  Calls Tryz.prog 163 #[.pointer (some ⟨K, 0, none⟩), .int .i64 (i : Int), .func (.func gf) #[] caps] w fun e w' => e = .returned (.int .i64 E) ∧ (E ≠ 0 → Below w.heap.size w w') ∧
   (E = 0 → Upd (fun b => b = K) w w' ∧ ∃ v', w'.heap[K]? = some (.cells #[v', .bool true] 145 (0, 0)) ∧ OwnF w.heap.size w' v' (l.set i R2)) := by
 have H := Lib.hid h
 have HK := Lib.hid hK
 have Hl := Lib.hid hl
 have HYg := Lib.hid hY
 have HBb := Lib.hid hbb
 have HB0 := Lib.hid hb0
 have k0 := block_cell (j := 0) hK rfl
 have hKs : K < w.heap.size := lt_of_block hK
 have HOw := Lib.hid (cluOwn_any l _ _ w h)
 clear h hK hl hY hbb hb0
 go_enter Tryz.func163, Tryz.ntmps163
 go_wp2_with fail
 refine HOw.out.mono ?_
 rintro e w1 ⟨v1, rfl, ⟨F, hO, hF⟩, hb1⟩
 obtain ⟨a1, c1, rfl⟩ := hO.shape
 obtain ⟨g, rfl⟩ : ∃ g, a1 = some ⟨g, 0, none⟩ := by
  obtain ⟨_, _, ⟨_, h2⟩, _⟩ := hO
  rcases h2 with ⟨e, h0⟩ | ⟨g, cp, cur, e, _⟩
  ·have := Hl.out; exfalso; omega
  ·cases e; exact ⟨g, rfl⟩
 rw [Hl.out] at hO ⊢
 have hbX : Below w1.heap.size w1 (w1.alloc (.cells #[.slice (some ⟨g, 0, none⟩) 3 c1] 66)) := (Below.refl _ _).alloc (Nat.le_refl _) _
 have hgB : w.heap.size ≤ g := (hO.block rfl).1
 have hg1 : g < w1.heap.size := (hO.block rfl).2
 have hw1 := hb1.size
 have HO2 := Lib.hid (hO.below hbX)
 have HX := Lib.hid (heap_alloc_new w1 (.cells #[.slice (some ⟨g, 0, none⟩) 3 c1] 66))
 have HF := Lib.hid hF
 have hB2 : Below w.heap.size w (w1.alloc (.cells #[.slice (some ⟨g, 0, none⟩) 3 c1] 66)) := hb1.trans (hbX.mono hw1)
 have HB2 := Lib.hid hB2
 have HBx2 := Lib.hid (HBb.out _ _ HB0.out hB2)
 clear hO hF hb1 hbX hB2 k0 HOw
 have hs2 : (w1.alloc (.cells #[.slice (some ⟨g, 0, none⟩) 3 c1] 66)).heap.size = w1.heap.size + 1 := by simp
 go_upto_region 2 with fail
 generalize hw2 : w1.alloc (.cells #[.slice (some ⟨g, 0, none⟩) 3 c1] 66) = w2 at *
 clear hw2
 obtain ⟨sa0, sc0, ra0, rc0, oa0, oc0, ua0, uc0, h5k, hKc⟩ := HO2.out.one (by rw [Hl.out]; omega) (show i < l.length by rw [Hl.out]; exact hi)
 obtain ⟨x0, x1, x2, x3, x4, x5, x6⟩ := hKc _ (Below.refl _ _)
 have HKc := Lib.hid hKc
 clear hKc
 have xx := block_cell (j := 0) HX.out rfl
 have hi1 : (0 : Int) ≤ (i : Int) := by omega
 have hi2 : (i : Int) < 3 := by omega
 have HC := Lib.hid (HYg.out w2 _ _ _ _ _ HBx2.out h5k)
 simp only [repV] at HC
 clear h5k
 go_wp2_with fail
 refine HC.out.mono ?_
 rintro e w3 ⟨sv1, rv1, ov1, uv1, rfl, hv, hb3⟩
 obtain ⟨sa1, sc1, rfl⟩ := hv.store.vshape
 obtain ⟨⟨ra1, rc1⟩, rfl⟩ := hv.refs.shape
 obtain ⟨oa1, oc1, rfl⟩ := hv.objs.vshape
 obtain ⟨⟨ua1, uc1⟩, rfl⟩ := hv.upds.shape
 clear HC xx x0 x1 x2 x3 x4 x5 x6
 simp only [repV]
 have hb4 : Below w3.heap.size w3 (w3.alloc (.cells #[.slice sa1 R2.store.length sc1, .slice ra1 R2.refs.length rc1, .int .i64 R2.gen, .int .i64 R2.phase, .slice oa1 R2.pend.objects.length oc1, .slice ua1 R2.pend.updates.length uc1, .bool R2.pend.force] 28)) := (Below.refl _ _).alloc (Nat.le_refl _) _
 have hb24 := below_next hb3 hb4
 have hw3 := hb3.size
 have HX4 := Lib.hid (blk_below HX.out hb24)
 have HR4 := Lib.hid (heap_alloc_new w3 (.cells #[.slice sa1 R2.store.length sc1, .slice ra1 R2.refs.length rc1, .int .i64 R2.gen, .int .i64 R2.phase, .slice oa1 R2.pend.objects.length oc1, .slice ua1 R2.pend.updates.length uc1, .bool R2.pend.force] 28))
 have HO4 := Lib.hid (HO2.out.below hb24)
 have Hv4 := Lib.hid (((hv.lt).below hb4).weaken (S' := fun b => w2.heap.size ≤ b ∧ b < w3.heap.size) fun b hb => hb)
 have HB4 := Lib.hid (HB2.out.trans (hb24.mono HB2.out.size))
 have HK4 := Lib.hid ((HB4.out.block _ hKs).trans HK.out)
 have hs4 : (w3.alloc (.cells #[.slice sa1 R2.store.length sc1, .slice ra1 R2.refs.length rc1, .int .i64 R2.gen, .int .i64 R2.phase, .slice oa1 R2.pend.objects.length oc1, .slice ua1 R2.pend.updates.length uc1, .bool R2.pend.force] 28)).heap.size = w3.heap.size + 1 := by simp
 obtain ⟨z0, z1, z2, z3, z4, z5, z6⟩ := HKc.out _ hb24
 clear hv hb3 hb4 hb24 HX HO2 HB2
 by_cases hE : E = 0
 case neg =>
  have q : (E == 0) = false := by simpa using hE
  have HE := Lib.hid hE
  clear hE
  go_wp2_with fail
  go_ret
  exact ⟨rfl, fun _ => HB4.out, fun h => absurd h HE.out⟩
 case pos =>
  subst hE
  have f0 := HO4.out.free (i * 7)
  have f1 := HO4.out.free (i * 7 + 1)
  have f2 := HO4.out.free (i * 7 + 2)
  have f3 := HO4.out.free (i * 7 + 3)
  have f4 := HO4.out.free (i * 7 + 4)
  have f5 := HO4.out.free (i * 7 + 5)
  have f6 := HO4.out.free (i * 7 + 6)
  have r0 := block_cell (j := 0) HR4.out rfl
  have r1 := block_cell (j := 1) HR4.out rfl
  have r2 := block_cell (j := 2) HR4.out rfl
  have r3 := block_cell (j := 3) HR4.out rfl
  have r4 := block_cell (j := 4) HR4.out rfl
  have r5 := block_cell (j := 5) HR4.out rfl
  have r6 := block_cell (j := 6) HR4.out rfl
  have y0 := block_cell (j := 0) HX4.out rfl
  have hset := HO4.out.set (i := i) (r := R2) (x := ⟨.slice sa1 R2.store.length sc1, .slice ra1 R2.refs.length rc1, .slice oa1 R2.pend.objects.length oc1, .slice ua1 R2.pend.updates.length uc1⟩) (show i < l.length by rw [Hl.out]; exact hi) (S2 := fun b => w2.heap.size ≤ b ∧ b < w3.heap.size) Hv4.out (fun b hb => ⟨by omega, fun e => by omega⟩)
  obtain ⟨w5, hw5⟩ : ∃ w5, w5 = (w3.alloc (.cells #[.slice sa1 R2.store.length sc1, .slice ra1 R2.refs.length rc1, .int .i64 R2.gen, .int .i64 R2.phase, .slice oa1 R2.pend.objects.length oc1, .slice ua1 R2.pend.updates.length uc1, .bool R2.pend.force] 28)).setCells g (i * 7) (repC R2 ⟨.slice sa1 R2.store.length sc1, .slice ra1 R2.refs.length rc1, .slice oa1 R2.pend.objects.length oc1, .slice ua1 R2.pend.updates.length uc1⟩) := ⟨_, rfl⟩
  rw [← hw5] at hset
  have hK5 := hset.2.blk HK4.out (fun e => by have e2 : K = g := e; omega)
  have hX5 := hset.2.blk HX4.out (fun e => by have e2 : w1.heap.size = g := e; omega)
  have hB5 := HB4.out.trans (hset.2.below (B := w.heap.size) HB4.out.size (fun b hb => by have e2 : b = g := hb; omega))
  have HO5 := Lib.hid hset.1
  rw [show repC R2 ⟨.slice sa1 R2.store.length sc1, .slice ra1 R2.refs.length rc1, .slice oa1 R2.pend.objects.length oc1, .slice ua1 R2.pend.updates.length uc1⟩ = [.slice sa1 R2.store.length sc1, .slice ra1 R2.refs.length rc1, .int .i64 R2.gen, .int .i64 R2.phase, .slice oa1 R2.pend.objects.length oc1, .slice ua1 R2.pend.updates.length uc1, .bool R2.pend.force] from rfl, setCellsD] at hw5
  have Hw5 := Lib.hid hw5
  have HK5 := Lib.hid hK5
  have HX5 := Lib.hid hX5
  have HB5 := Lib.hid hB5
  clear hset hw5 hK5 hX5 hB5 HX4 HO4 HB4 HK4
  go_upto_region 5 with fail
  rw [← Hw5.out]
  clear f0 f1 f2 f3 f4 f5 f6 r0 r1 r2 r3 r4 r5 r6 z0 z1 z2 z3 z4 z5 z6 y0
  have xx := block_cell (j := 0) HX5.out rfl
  have m0 := block_cell (j := 0) HK5.out rfl
  have m1 := block_cell (j := 1) HK5.out rfl
  have n0 := block_free (j := 0) HK5.out
  have n1 := block_free (j := 1) HK5.out
  have s0 := block_setCell (j := 0) HK5.out (.slice (some ⟨g, 0, none⟩) 3 c1)
  have s1 := block_setCell (j := 1) s0 (.bool true)
  simp only [List.setIfInBounds_toArray, List.set_cons_zero, List.set_cons_succ] at s1
  have hu : Upd (fun b => b = K) w5 ((w5.setCell ⟨K, 0, none⟩ (.slice (some ⟨g, 0, none⟩) 3 c1)).setCell ⟨K, 1, none⟩ (.bool true)) := Upd.setCell (T := fun x => x = K) (Upd.setCell (T := fun x => x = K) (Upd.refl (fun x => x = K) w5) (p := ⟨K, 0, none⟩) (fun _ => rfl) _) (p := ⟨K, 1, none⟩) (fun _ => rfl) _
  have hu5 : Upd (fun b => b = K) w w5 := (upd_of_below HB5.out).weaken (fun b hb h => by have h2 : w.heap.size ≤ b := h; omega)
  have HEnd := Lib.hid (show Upd (fun b => b = K) w ((w5.setCell ⟨K, 0, none⟩ (.slice (some ⟨g, 0, none⟩) 3 c1)).setCell ⟨K, 1, none⟩ (.bool true)) ∧ ∃ v', ((w5.setCell ⟨K, 0, none⟩ (.slice (some ⟨g, 0, none⟩) 3 c1)).setCell ⟨K, 1, none⟩ (.bool true)).heap[K]? = some (.cells #[v', .bool true] 145 (0, 0)) ∧ OwnF w.heap.size ((w5.setCell ⟨K, 0, none⟩ (.slice (some ⟨g, 0, none⟩) 3 c1)).setCell ⟨K, 1, none⟩ (.bool true)) v' (l.set i R2) from
   ⟨hu5.trans hu (fun _ _ h => h), _, s1, _, HO5.out.upd hu (fun b hb e => by have e2 : b = K := e; rcases hb with h | h; have := HF.out b h; omega; omega) (fun q hq e => by have e2 : q = K := e; have e3 : g = q := (by simpa [Value.ownBlock] using hq); omega), fun b hb => by rcases hb with h | h; exact HF.out b h; omega⟩)
  clear s0 s1 hu hu5
  go_wp2_with fail
  go_ret
  first | exact ⟨rfl, HEnd.out⟩ | exact ⟨rfl, fun h => absurd rfl h, fun _ => HEnd.out⟩
set_option maxRecDepth 100000 in
set_option maxHeartbeats 16000000 in
theorem do1_any (K J D b : Nat) (sa : Option Addr) (sc : Nat) (told : Bool) (l : List Rep) (r : Rep) (sv rv ov uv : Value) (S S2 : Nat → Prop) (w : World) (hK : w.heap[K]? = some (.cells #[.slice sa 3 sc, .bool told] 145 (0, 0))) (hJ : w.heap[J]? = some (.cells #[.pointer (some ⟨K, 0, none⟩)] 143 (0, 0))) (hD : w.heap[D]? = some (.cells #[.int .i64 (b : Int)] 3 (0, 0)))
  (h : RepsV S w (.slice sa 3 sc) l) (hl : l.length = 3) (hb : b < 3) (hr : RepIs S2 w r sv rv ov uv) (hn : (rep l b).store.length ≤ 40) (hc : checkStore r.store = 0) :
  Calls Tryz.prog 164 #[repV r sv rv ov uv, .pointer (some ⟨J, 0, none⟩), .pointer (some ⟨D, 0, none⟩)] w fun e w' => RetRepF w w' e (repairR (rep l b) r) (repairE (rep l b) r) := by
 have H := Lib.hid h
 have Hr := Lib.hid hr
 obtain ⟨sa1, sc1, e1⟩ := hr.store.vshape
 obtain ⟨⟨ra1, rc1⟩, e2⟩ := hr.refs.shape
 obtain ⟨oa1, oc1, e3⟩ := hr.objs.vshape
 obtain ⟨⟨ua1, uc1⟩, e4⟩ := hr.upds.shape
 subst e1 e2 e3 e4
 obtain ⟨ax, nx, cx, fr, HN, ex, _, _, _, h4, h5⟩ := h.open
 obtain rfl : nx = 3 := HN.out.trans hl
 cases ex
 obtain ⟨b0, off0, rfl, _, k0, k1, k2, k3, k4, k5, k6⟩ := h4 (by omega)
 have Hk := Lib.hid (And.intro k0 (And.intro k1 (And.intro k2 (And.intro k3 (And.intro k4 (And.intro k5 k6))))))
 have H5 := Lib.hid h5
 clear h h4 h5 HN hr k0 k1 k2 k3 k4 k5 k6
 obtain ⟨R, hR, hR1, HB0⟩ := cls_allocs w [.cells #[.slice sa1 r.store.length sc1, .slice ra1 r.refs.length rc1, .int .i64 r.gen, .int .i64 r.phase, .slice oa1 r.pend.objects.length oc1, .slice ua1 r.pend.updates.length uc1, .bool r.pend.force] 28]
 simp only [List.foldl] at hR1
 have hRb := hR.below
 have hRn := hR.next
 have hbw : Below w.heap.size w ((w.alloc (.cells #[.slice sa1 r.store.length sc1, .slice ra1 r.refs.length rc1, .int .i64 r.gen, .int .i64 r.phase, .slice oa1 r.pend.objects.length oc1, .slice ua1 r.pend.updates.length uc1, .bool r.pend.force] 28)).alloc (.cells #[.slice none 0 0, .slice none 0 0, .int .i64 0, .int .i64 0, .slice none 0 0, .slice none 0 0, .bool false] 28)) := ((Below.refl _ _).alloc (Nat.le_refl _) _).alloc (by simp) _
 have hs1 : (w.alloc (.cells #[.slice sa1 r.store.length sc1, .slice ra1 r.refs.length rc1, .int .i64 r.gen, .int .i64 r.phase, .slice oa1 r.pend.objects.length oc1, .slice ua1 r.pend.updates.length uc1, .bool r.pend.force] 28)).heap.size = w.heap.size + 1 := by simp
 have hres : ((w.alloc (.cells #[.slice sa1 r.store.length sc1, .slice ra1 r.refs.length rc1, .int .i64 r.gen, .int .i64 r.phase, .slice oa1 r.pend.objects.length oc1, .slice ua1 r.pend.updates.length uc1, .bool r.pend.force] 28)).alloc (.cells #[.slice none 0 0, .slice none 0 0, .int .i64 0, .int .i64 0, .slice none 0 0, .slice none 0 0, .bool false] 28)).heap[w.heap.size + 1]? = some (.cells #[.slice none 0 0, .slice none 0 0, .int .i64 0, .int .i64 0, .slice none 0 0, .slice none 0 0, .bool false] 28 (0, 0)) := by have := heap_alloc_new (w.alloc (.cells #[.slice sa1 r.store.length sc1, .slice ra1 r.refs.length rc1, .int .i64 r.gen, .int .i64 r.phase, .slice oa1 r.pend.objects.length oc1, .slice ua1 r.pend.updates.length uc1, .bool r.pend.force] 28)) (.cells #[.slice none 0 0, .slice none 0 0, .int .i64 0, .int .i64 0, .slice none 0 0, .slice none 0 0, .bool false] 28); rw [hs1] at this; exact this
 have hbox : ((w.alloc (.cells #[.slice sa1 r.store.length sc1, .slice ra1 r.refs.length rc1, .int .i64 r.gen, .int .i64 r.phase, .slice oa1 r.pend.objects.length oc1, .slice ua1 r.pend.updates.length uc1, .bool r.pend.force] 28)).alloc (.cells #[.slice none 0 0, .slice none 0 0, .int .i64 0, .int .i64 0, .slice none 0 0, .slice none 0 0, .bool false] 28)).heap[w.heap.size]? = some (.cells #[.slice sa1 r.store.length sc1, .slice ra1 r.refs.length rc1, .int .i64 r.gen, .int .i64 r.phase, .slice oa1 r.pend.objects.length oc1, .slice ua1 r.pend.updates.length uc1, .bool r.pend.force] 28 (0, 0)) := (((Below.refl (w.heap.size + 1) (w.alloc (.cells #[.slice sa1 r.store.length sc1, .slice ra1 r.refs.length rc1, .int .i64 r.gen, .int .i64 r.phase, .slice oa1 r.pend.objects.length oc1, .slice ua1 r.pend.updates.length uc1, .bool r.pend.force] 28))).alloc (by simp) _).block _ (by omega)).trans (heap_alloc_new w _)
 have HA := Lib.hid (And.intro hbw (And.intro hres hbox))
 clear hbw hres hbox HB0 hRb hRn hR1 hR
 simp only [repV]
 go_enter Tryz.func164, Tryz.ntmps164
 go_upto_region 1 with fail
 clear hs1
 obtain ⟨w2, hw2⟩ : ∃ w2, w2 = ((w.alloc (.cells #[.slice sa1 r.store.length sc1, .slice ra1 r.refs.length rc1, .int .i64 r.gen, .int .i64 r.phase, .slice oa1 r.pend.objects.length oc1, .slice ua1 r.pend.updates.length uc1, .bool r.pend.force] 28)).alloc (.cells #[.slice none 0 0, .slice none 0 0, .int .i64 0, .int .i64 0, .slice none 0 0, .slice none 0 0, .bool false] 28)) := ⟨_, rfl⟩
 rw [← hw2] at HA ⊢
 clear hw2
 obtain ⟨Q, hQ, hQ1, hQu⟩ : ∃ Q : World → Prop, Cls w Q ∧ In Q w2 ∧ (∀ x y (T : Nat → Prop), In Q x → Upd T x y → (∀ b, T b → w.heap.size ≤ b) → In Q y) := by
  obtain ⟨Q, h1, h2, h3⟩ := cls_newer w
  exact ⟨Q, h1, h1.next _ _ h2 HA.out.1, h3⟩
 have hQb := hQ.below
 have hQn := hQ.next
 have HQu := Lib.hid hQu
 clear hQu
 have j0 := fun x (hx : In Q x) => below_cell (hQb _ hx) (block_cell (j := 0) hJ rfl)
 have d0 := fun x (hx : In Q x) => below_cell (hQb _ hx) (block_cell (j := 0) hD rfl)
 have c0 := fun x (hx : In Q x) => below_cell (hQb _ hx) (block_cell (j := 0) hK rfl)
 have e0 := fun x (hx : In Q x) => Hk.out.1 b x hb (hQb _ hx)
 have e1 := fun x (hx : In Q x) => Hk.out.2.1 b x hb (hQb _ hx)
 have e2 := fun x (hx : In Q x) => Hk.out.2.2.1 b x hb (hQb _ hx)
 have e3 := fun x (hx : In Q x) => Hk.out.2.2.2.1 b x hb (hQb _ hx)
 have e4 := fun x (hx : In Q x) => Hk.out.2.2.2.2.1 b x hb (hQb _ hx)
 have e5 := fun x (hx : In Q x) => Hk.out.2.2.2.2.2.1 b x hb (hQb _ hx)
 have e6 := fun x (hx : In Q x) => Hk.out.2.2.2.2.2.2 b x hb (hQb _ hx)
 have HRr := Lib.hid (fun x (hx : In Q x) => repairRaw_any (rep l b) r _ _ _ _ _ _ _ _ _ _ x ((H5.out b hb).below (hQb _ hx)) (Hr.out.below (hQb _ hx)) hn hc)
 simp only [repV] at HRr
 obtain ⟨rr, hrr⟩ : ∃ rr, rr = repairR (rep l b) r := ⟨_, rfl⟩
 obtain ⟨re, hre⟩ : ∃ re, re = repairE (rep l b) r := ⟨_, rfl⟩
 rw [← hrr, ← hre] at HRr
 have Hrr := Lib.hid hrr
 have Hre := Lib.hid hre
 clear hrr hre
 have HRes := Lib.hid HA.out.2.1
 have HBox := Lib.hid HA.out.2.2
 clear HA hK hJ hD
 have hi1 : (0 : Int) ≤ (b : Int) := by omega
 have hi2 : (b : Int) < 3 := by omega
 refine wp_region_held (S := In (fun x : World => In Q x ∧ x.heap[w.heap.size]? = some (.cells #[.slice sa1 r.store.length sc1, .slice ra1 r.refs.length rc1, .int .i64 r.gen, .int .i64 r.phase, .slice oa1 r.pend.objects.length oc1, .slice ua1 r.pend.updates.length uc1, .bool r.pend.force] 28 (0, 0)))) (by kernel_rfl) ?_
 change wpAnyH _ _ _ _ _ _ _ _ (World.drew _)
 have hC0 : In (fun x : World => In Q x ∧ x.heap[w.heap.size]? = some (.cells #[.slice sa1 r.store.length sc1, .slice ra1 r.refs.length rc1, .int .i64 r.gen, .int .i64 r.phase, .slice oa1 r.pend.objects.length oc1, .slice ua1 r.pend.updates.length uc1, .bool r.pend.force] 28 (0, 0))) w2.drew := show (fun x : World => In Q x ∧ x.heap[w.heap.size]? = some (.cells #[.slice sa1 r.store.length sc1, .slice ra1 r.refs.length rc1, .int .i64 r.gen, .int .i64 r.phase, .slice oa1 r.pend.objects.length oc1, .slice ua1 r.pend.updates.length uc1, .bool r.pend.force] 28 (0, 0))) w2.drew from ⟨hQ.drew _ hQ1, HBox.out⟩
 have HRes0 := Lib.hid (show w2.drew.heap[w.heap.size + 1]? = some (.cells #[.slice none 0 0, .slice none 0 0, .int .i64 0, .int .i64 0, .slice none 0 0, .slice none 0 0, .bool false] 28 (0, 0)) from HRes.out)
 generalize hx0 : w2.drew = x0 at hC0 HRes0 ⊢
 clear hx0 HRes HBox
 refine wpAnyH_take (i := 0) (v := .pointer (some ⟨K, 0, none⟩)) rfl (by kernel_rfl) (by kernel_rfl) (by kernel_rfl) (fun _ _ _ h => h) (Or.inl ⟨by rfl, fun w hSw => ?_⟩) hC0 ?_
 ·have yq : _ ∧ _ := hSw; have yy := j0 _ yq.1; go_simp
 simp only [Act.put, List.getElem_toArray, List.getElem_cons_zero, List.getElem_cons_succ, List.setIfInBounds_toArray, List.set_cons_zero, List.set_cons_succ]
 refine wpAnyH_take (i := 1) (v := .pointer (some ⟨K, 0, none⟩)) rfl (by kernel_rfl) (by kernel_rfl) (by kernel_rfl) (fun _ _ _ h => h) (Or.inl ⟨by rfl, fun w hSw => ?_⟩) hC0 ?_
 ·go_simp
 simp only [Act.put, List.getElem_toArray, List.getElem_cons_zero, List.getElem_cons_succ, List.setIfInBounds_toArray, List.set_cons_zero, List.set_cons_succ]
 refine wpAnyH_take (i := 2) (v := .pointer (some ⟨K, 0, none⟩)) rfl (by kernel_rfl) (by kernel_rfl) (by kernel_rfl) (fun _ _ _ h => h) (Or.inl ⟨by rfl, fun w hSw => ?_⟩) hC0 ?_
 ·go_simp
 simp only [Act.put, List.getElem_toArray, List.getElem_cons_zero, List.getElem_cons_succ, List.setIfInBounds_toArray, List.set_cons_zero, List.set_cons_succ]
 refine wpAnyH_take (i := 3) (v := .pointer (some ⟨K, 0, none⟩)) rfl (by kernel_rfl) (by kernel_rfl) (by kernel_rfl) (fun _ _ _ h => h) (Or.inl ⟨by rfl, fun w hSw => ?_⟩) hC0 ?_
 ·go_simp
 simp only [Act.put, List.getElem_toArray, List.getElem_cons_zero, List.getElem_cons_succ, List.setIfInBounds_toArray, List.set_cons_zero, List.set_cons_succ]
 refine wpAnyH_take (i := 4) (v := .slice (some ⟨b0, off0, none⟩) 3 sc) rfl (by kernel_rfl) (by kernel_rfl) (by kernel_rfl) (fun _ _ _ h => h) (Or.inl ⟨by rfl, fun w hSw => ?_⟩) hC0 ?_
 ·have yq : _ ∧ _ := hSw; have yy := c0 _ yq.1; go_simp
 simp only [Act.put, List.getElem_toArray, List.getElem_cons_zero, List.getElem_cons_succ, List.setIfInBounds_toArray, List.set_cons_zero, List.set_cons_succ]
 refine wpAnyH_take (i := 5) (v := .int .i64 (b : Int)) rfl (by kernel_rfl) (by kernel_rfl) (by kernel_rfl) (fun _ _ _ h => h) (Or.inl ⟨by rfl, fun w hSw => ?_⟩) hC0 ?_
 ·have yq : _ ∧ _ := hSw; have yy := d0 _ yq.1; go_simp
 simp only [Act.put, List.getElem_toArray, List.getElem_cons_zero, List.getElem_cons_succ, List.setIfInBounds_toArray, List.set_cons_zero, List.set_cons_succ]
 refine wpAnyH_take (i := 6) (v := .pointer (some ⟨b0, off0 + b * 7, none⟩)) rfl (by kernel_rfl) (by kernel_rfl) (by kernel_rfl) (fun _ _ _ h => h) (Or.inl ⟨by rfl, fun w hSw => ?_⟩) hC0 ?_
 ·go_simp
 simp only [Act.put, List.getElem_toArray, List.getElem_cons_zero, List.getElem_cons_succ, List.setIfInBounds_toArray, List.set_cons_zero, List.set_cons_succ]
 refine wpAnyH_take (i := 7) (v := .agg #[.slice (fr b).sa (rep l b).store.length (fr b).sc, .slice (fr b).ra (rep l b).refs.length (fr b).rc, .int .i64 (rep l b).gen, .int .i64 (rep l b).phase, .slice (fr b).oa (rep l b).pend.objects.length (fr b).oc, .slice (fr b).ua (rep l b).pend.updates.length (fr b).uc, .bool (rep l b).pend.force]) rfl (by kernel_rfl) (by kernel_rfl) (by kernel_rfl) (fun _ _ _ h => h) (Or.inl ⟨by rfl, fun w hSw => ?_⟩) hC0 ?_
 ·have yq : _ ∧ _ := hSw; have y0 := e0 _ yq.1; have y1 := e1 _ yq.1; have y2 := e2 _ yq.1; have y3 := e3 _ yq.1; have y4 := e4 _ yq.1; have y5 := e5 _ yq.1; have y6 := e6 _ yq.1; go_simp
 simp only [Act.put, List.getElem_toArray, List.getElem_cons_zero, List.getElem_cons_succ, List.setIfInBounds_toArray, List.set_cons_zero, List.set_cons_succ]
 refine wpAnyH_take (i := 8) (v := .agg #[.slice sa1 r.store.length sc1, .slice ra1 r.refs.length rc1, .int .i64 r.gen, .int .i64 r.phase, .slice oa1 r.pend.objects.length oc1, .slice ua1 r.pend.updates.length uc1, .bool r.pend.force]) rfl (by kernel_rfl) (by kernel_rfl) (by kernel_rfl) (fun _ _ _ h => h) (Or.inl ⟨by rfl, fun w hSw => ?_⟩) hC0 ?_
 ·have yq : _ ∧ _ := hSw; have y0 := block_cell (j := 0) yq.2 rfl; have y1 := block_cell (j := 1) yq.2 rfl; have y2 := block_cell (j := 2) yq.2 rfl; have y3 := block_cell (j := 3) yq.2 rfl; have y4 := block_cell (j := 4) yq.2 rfl; have y5 := block_cell (j := 5) yq.2 rfl; have y6 := block_cell (j := 6) yq.2 rfl; go_simp
 simp only [Act.put, List.getElem_toArray, List.getElem_cons_zero, List.getElem_cons_succ, List.setIfInBounds_toArray, List.set_cons_zero, List.set_cons_succ]
 refine wpAnyH_all (rs := [9]) (by kernel_rfl) (by simp) (fun j hj => ?_)
 obtain rfl : j = 9 := by simpa using hj
 refine Or.inl ?_
 have hq0 := (show _ ∧ _ from hC0)
 go_wp2_with fail
 refine (HRr.out _ hq0.1).mono ?_
 rintro e x1 ⟨sv5, rv5, ov5, uv5, rfl, hv, hb1⟩
 obtain ⟨sa5, sc5, rfl⟩ := hv.store.vshape
 obtain ⟨⟨ra5, rc5⟩, rfl⟩ := hv.refs.shape
 obtain ⟨oa5, oc5, rfl⟩ := hv.objs.vshape
 obtain ⟨⟨ua5, uc5⟩, rfl⟩ := hv.upds.shape
 have hC1 : In (fun x : World => In Q x ∧ x.heap[w.heap.size]? = some (.cells #[.slice sa1 r.store.length sc1, .slice ra1 r.refs.length rc1, .int .i64 r.gen, .int .i64 r.phase, .slice oa1 r.pend.objects.length oc1, .slice ua1 r.pend.updates.length uc1, .bool r.pend.force] 28 (0, 0))) x1 := show (fun x : World => In Q x ∧ x.heap[w.heap.size]? = some (.cells #[.slice sa1 r.store.length sc1, .slice ra1 r.refs.length rc1, .int .i64 r.gen, .int .i64 r.phase, .slice oa1 r.pend.objects.length oc1, .slice ua1 r.pend.updates.length uc1, .bool r.pend.force] 28 (0, 0))) x1 from ⟨hQn _ _ hq0.1 hb1, blk_below hq0.2 hb1⟩
 have hxs := (hQb _ hq0.1).size
 have hrs := lt_of_block HRes0.out
 have HRes1 := Lib.hid (blk_below HRes0.out hb1)
 have Hv := Lib.hid (hv.weaken (S' := fun b => w.heap.size ≤ b ∧ b ≠ w.heap.size + 1) fun b hb => by omega)
 clear hv hb1 hxs hrs hq0 HRes0
 simp only [repV]
 go_simp
 refine wpAnyH_take (i := 10) (v := .agg #[.slice sa5 rr.store.length sc5, .slice ra5 rr.refs.length rc5, .int .i64 rr.gen, .int .i64 rr.phase, .slice oa5 rr.pend.objects.length oc5, .slice ua5 rr.pend.updates.length uc5, .bool rr.pend.force]) rfl (by kernel_rfl) (by kernel_rfl) (by kernel_rfl) (fun _ _ _ h => h) (Or.inl ⟨by rfl, fun w hSw => ?_⟩) hC1 ?_
 ·go_simp
 simp only [Act.put, List.getElem_toArray, List.getElem_cons_zero, List.getElem_cons_succ, List.setIfInBounds_toArray, List.set_cons_zero, List.set_cons_succ]
 refine wpAnyH_take (i := 11) (v := .int .i64 re) rfl (by kernel_rfl) (by kernel_rfl) (by kernel_rfl) (fun _ _ _ h => h) (Or.inl ⟨by rfl, fun w hSw => ?_⟩) hC1 ?_
 ·go_simp
 simp only [Act.put, List.getElem_toArray, List.getElem_cons_zero, List.getElem_cons_succ, List.setIfInBounds_toArray, List.set_cons_zero, List.set_cons_succ]
 refine wpAnyH_all (rs := [12]) (by kernel_rfl) (by simp) (fun j hj => ?_)
 obtain rfl : j = 12 := by simpa using hj
 refine Or.inl ?_
 have hblk := HRes1.out
 have g0 := block_cell (j := 0) hblk rfl
 have g1 := block_cell (j := 1) hblk rfl
 have g2 := block_cell (j := 2) hblk rfl
 have g3 := block_cell (j := 3) hblk rfl
 have g4 := block_cell (j := 4) hblk rfl
 have g5 := block_cell (j := 5) hblk rfl
 have g6 := block_cell (j := 6) hblk rfl
 have f0 := block_free (j := 0) hblk
 have f1 := block_free (j := 1) hblk
 have f2 := block_free (j := 2) hblk
 have f3 := block_free (j := 3) hblk
 have f4 := block_free (j := 4) hblk
 have f5 := block_free (j := 5) hblk
 have f6 := block_free (j := 6) hblk
 have Hb7 := Lib.hid (set7_is (v0 := .slice sa5 rr.store.length sc5) (v1 := .slice ra5 rr.refs.length rc5) (v2 := .int .i64 rr.gen) (v3 := .int .i64 rr.phase) (v4 := .slice oa5 rr.pend.objects.length oc5) (v5 := .slice ua5 rr.pend.updates.length uc5) (v6 := .bool rr.pend.force) hblk)
 have Hu7 := Lib.hid (set7_upd (w.heap.size + 1) (.slice sa5 rr.store.length sc5) (.slice ra5 rr.refs.length rc5) (.int .i64 rr.gen) (.int .i64 rr.phase) (.slice oa5 rr.pend.objects.length oc5) (.slice ua5 rr.pend.updates.length uc5) (.bool rr.pend.force) x1)
 have hqk := (show _ ∧ _ from hC1)
 have hQ7 : In Q (set7 (w.heap.size + 1) (.slice sa5 rr.store.length sc5) (.slice ra5 rr.refs.length rc5) (.int .i64 rr.gen) (.int .i64 rr.phase) (.slice oa5 rr.pend.objects.length oc5) (.slice ua5 rr.pend.updates.length uc5) (.bool rr.pend.force) x1) := HQu.out _ _ _ hqk.1 Hu7.out (fun b hb => by have e2 : b = w.heap.size + 1 := hb; omega)
 have hC2 : In (fun x : World => In Q x ∧ x.heap[w.heap.size]? = some (.cells #[.slice sa1 r.store.length sc1, .slice ra1 r.refs.length rc1, .int .i64 r.gen, .int .i64 r.phase, .slice oa1 r.pend.objects.length oc1, .slice ua1 r.pend.updates.length uc1, .bool r.pend.force] 28 (0, 0))) (set7 (w.heap.size + 1) (.slice sa5 rr.store.length sc5) (.slice ra5 rr.refs.length rc5) (.int .i64 rr.gen) (.int .i64 rr.phase) (.slice oa5 rr.pend.objects.length oc5) (.slice ua5 rr.pend.updates.length uc5) (.bool rr.pend.force) x1) := show (fun x : World => In Q x ∧ x.heap[w.heap.size]? = some (.cells #[.slice sa1 r.store.length sc1, .slice ra1 r.refs.length rc1, .int .i64 r.gen, .int .i64 r.phase, .slice oa1 r.pend.objects.length oc1, .slice ua1 r.pend.updates.length uc1, .bool r.pend.force] 28 (0, 0))) (set7 (w.heap.size + 1) (.slice sa5 rr.store.length sc5) (.slice ra5 rr.refs.length rc5) (.int .i64 rr.gen) (.int .i64 rr.phase) (.slice oa5 rr.pend.objects.length oc5) (.slice ua5 rr.pend.updates.length uc5) (.bool rr.pend.force) x1) from ⟨hQ7, Hu7.out.blk hqk.2 (fun e => by have e2 : w.heap.size = w.heap.size + 1 := e; omega)⟩
 have Hv7 := Lib.hid ((Hv.out.upd Hu7.out (fun b hb e => hb.2 e)).weaken (S' := fun b => w.heap.size ≤ b) fun b hb => hb.1)
 have HB7 := Lib.hid (hQb _ hQ7)
 go_wp2_with fail
 first | refine ⟨hC2, ?_⟩ | skip
 change wpAnyH _ _ _ _ _ _ _ _ (set7 (w.heap.size + 1) (.slice sa5 rr.store.length sc5) (.slice ra5 rr.refs.length rc5) (.int .i64 rr.gen) (.int .i64 rr.phase) (.slice oa5 rr.pend.objects.length oc5) (.slice ua5 rr.pend.updates.length uc5) (.bool rr.pend.force) x1)
 clear hqk hQ7 Hu7 hblk g0 g1 g2 g3 g4 g5 g6 f0 f1 f2 f3 f4 f5 f6
 generalize set7 (w.heap.size + 1) (.slice sa5 rr.store.length sc5) (.slice ra5 rr.refs.length rc5) (.int .i64 rr.gen) (.int .i64 rr.phase) (.slice oa5 rr.pend.objects.length oc5) (.slice ua5 rr.pend.updates.length uc5) (.bool rr.pend.force) x1 = x2 at *
 refine wpAnyH_take (i := 13) (v := .int .i64 re) rfl (by kernel_rfl) (by kernel_rfl) (by kernel_rfl) (fun _ _ _ h => h) (Or.inl ⟨by rfl, fun w hSw => ?_⟩) hC2 ?_
 ·go_simp
 simp only [Act.put, List.getElem_toArray, List.getElem_cons_zero, List.getElem_cons_succ, List.setIfInBounds_toArray, List.set_cons_zero, List.set_cons_succ]
 refine wpAnyH_done (by kernel_rfl) ?_ _
 have o0 := block_cell (j := 0) Hb7.out rfl
 have o1 := block_cell (j := 1) Hb7.out rfl
 have o2 := block_cell (j := 2) Hb7.out rfl
 have o3 := block_cell (j := 3) Hb7.out rfl
 have o4 := block_cell (j := 4) Hb7.out rfl
 have o5 := block_cell (j := 5) Hb7.out rfl
 have o6 := block_cell (j := 6) Hb7.out rfl
 go_wp2_with fail
 refine bodyPost_ret (v := .tuple #[.agg #[.slice sa5 rr.store.length sc5, .slice ra5 rr.refs.length rc5, .int .i64 rr.gen, .int .i64 rr.phase, .slice oa5 rr.pend.objects.length oc5, .slice ua5 rr.pend.updates.length uc5, .bool rr.pend.force], .int .i64 re]) (by simp [results, Tryz.results164, go_sem]; simp [o0, o1, o2, o3, o4, o5, o6] <;> rfl) rfl ?_
 rw [← Hrr.out, ← Hre.out]
 exact ⟨_, _, _, _, rfl, Hv7.out, HB7.out⟩
end Go.Proofs.YtjdgpgfiomnjkaaGreatDoor
