/- DeskG: rows of acts. -/
import Derived.Test.YtjdgpgfiomnjkaaGreatDoorT35
set_option linter.all false
set_option maxHeartbeats 16000000
set_option maxRecDepth 100000
namespace Go.Proofs.YtjdgpgfiomnjkaaGreatDoor
open Go.RowKit
structure AV where
 o : Value
 u : Value
def YD (a : Ac) (x : AV) : List Value := [.int .i64 a.kind, .int .i64 a.on, .int .i64 a.up, .int .i64 a.late, x.o, x.u, .bool a.push.force]
def Ig (S : Nat → Prop) (w : World) (v : Value) (l : List Ac) : Prop :=
 ∃ vs : Nat → AV, Sl S w v 7 88 l.length (fun i => YD (ac l i) (vs i)) ∧ ∀ i, i < l.length → Eu S w (ac l i) (vs i).o (vs i).u
theorem Ig.below {S : Nat → Prop} {w w' : World} {v : Value} {l : List Ac} (h : Ig S w v l) (hb : Below w.heap.size w w') : Ig S w' v l :=
 let ⟨vs, h1, h2⟩ := h; ⟨vs, h1.below hb, fun i hi => (h2 i hi).below hb⟩
theorem Ig.weaken {S S' : Nat → Prop} {w : World} {v : Value} {l : List Ac} (h : Ig S w v l) (hs : ∀ b, S b → S' b) : Ig S' w v l :=
 let ⟨vs, h1, h2⟩ := h; ⟨vs, h1.weaken hs, fun i hi => (h2 i hi).weaken hs⟩
theorem Ig.vshape {S : Nat → Prop} {w : World} {v : Value} {l : List Ac} (h : Ig S w v l) : ∃ a c, v = .slice a l.length c :=
 let ⟨_, ⟨a, cap, hv, _⟩, _⟩ := h; ⟨a, cap, hv⟩
structure AA where
 oa : Option Addr
 oc : Nat
 ua : Option Addr
 uc : Nat
def AA.av (x : AA) (r : Ac) : AV := ⟨.slice x.oa r.push.objects.length x.oc, .slice x.ua r.push.updates.length x.uc⟩
theorem Eu.aa {S : Nat → Prop} {w : World} {r : Ac} {x : AV} (h : Eu S w r x.o x.u) : ∃ y : AA, x = y.av r := by
 obtain ⟨oa, oc, e3⟩ := Ah.vshape h.objs
 obtain ⟨⟨ua, uc⟩, e4⟩ := AM.shape h.upds
 exact ⟨⟨oa, oc, ua, uc⟩, by cases x; simp_all [AA.av]⟩
theorem Ig.open {S : Nat → Prop} {w : World} {v : Value} {l : List Ac} (h : Ig S w v l) :
  ∃ a n cap, ∃ f : Nat → AA, Hid (n = l.length) ∧ v = .slice a n cap ∧ n ≤ cap ∧ cap ≤ 9223372036854775807 ∧ n * 88 ≤ 140737488351232 ∧
   (0 < n → ∃ b off, a = some ⟨b, off, none⟩ ∧ S b ∧
    (∀ i x, i < n → Below w.heap.size w x → x.cell? ⟨b, off + i * 7, none⟩ = some (.int .i64 (ac l i).kind)) ∧
    (∀ i x, i < n → Below w.heap.size w x → x.cell? ⟨b, off + i * 7 + 1, none⟩ = some (.int .i64 (ac l i).on)) ∧
    (∀ i x, i < n → Below w.heap.size w x → x.cell? ⟨b, off + i * 7 + 2, none⟩ = some (.int .i64 (ac l i).up)) ∧
    (∀ i x, i < n → Below w.heap.size w x → x.cell? ⟨b, off + i * 7 + 3, none⟩ = some (.int .i64 (ac l i).late)) ∧
    (∀ i x, i < n → Below w.heap.size w x → x.cell? ⟨b, off + i * 7 + 4, none⟩ = some (.slice (f i).oa (ac l i).push.objects.length (f i).oc)) ∧
    (∀ i x, i < n → Below w.heap.size w x → x.cell? ⟨b, off + i * 7 + 5, none⟩ = some (.slice (f i).ua (ac l i).push.updates.length (f i).uc)) ∧
    (∀ i x, i < n → Below w.heap.size w x → x.cell? ⟨b, off + i * 7 + 6, none⟩ = some (.bool (ac l i).push.force))) ∧
   (∀ i, i < n → Eu S w (ac l i) (.slice (f i).oa (ac l i).push.objects.length (f i).oc) (.slice (f i).ua (ac l i).push.updates.length (f i).uc)) := by
 obtain ⟨vs, h1, h2⟩ := h
 have hp : ∃ f : Nat → AA, ∀ i, i < l.length → vs i = (f i).av (ac l i) := by
  refine ⟨fun i => if hi : i < l.length then Classical.choose (h2 i hi).aa else ⟨none, 0, none, 0⟩, fun i hi => ?_⟩
  simp only [hi, dif_pos]
  exact Classical.choose_spec (h2 i hi).aa
 obtain ⟨f, hf⟩ := hp
 obtain ⟨a, cap, hv, h3, h4, h5, h6⟩ := h1
 refine ⟨a, l.length, cap, f, rfl, hv, h3, h4, h5, fun hn => ?_, fun i hi => ?_⟩
 ·obtain ⟨b, off, ha, hS, hc⟩ := h6 hn
  have hc' : ∀ i x, i < l.length → Below w.heap.size w x → ∀ j u, (YD (ac l i) ((f i).av (ac l i)))[j]? = some u → x.cell? ⟨b, off + i * 7 + j, none⟩ = some u :=
   fun i x hi hb j u hu => Ai hb (hc i hi j u (by show (YD (ac l i) (vs i))[j]? = some u; rw [hf i hi]; exact hu))
  exact ⟨b, off, ha, hS, fun i x hi hb => hc' i x hi hb 0 _ rfl, fun i x hi hb => hc' i x hi hb 1 _ rfl, fun i x hi hb => hc' i x hi hb 2 _ rfl, fun i x hi hb => hc' i x hi hb 3 _ rfl, fun i x hi hb => hc' i x hi hb 4 _ rfl, fun i x hi hb => hc' i x hi hb 5 _ rfl, fun i x hi hb => hc' i x hi hb 6 _ rfl⟩
 ·have := h2 i hi
  rw [hf i hi] at this; exact this
theorem Tryz.infoErr : (Tryz.prog.info? 33).map (fun i => (i.zero, i.size, i.bytes)) = some (some (.int .i64 0), 1, 8) := by kernel_rfl
theorem JM {ops : Array Oper} {rest : List Oper} {o : Oper} {a : Act} {w : World} {Q : Exit → Act → World → Prop} (hgd : o.guard = none) (s x : Operand)
  (ho : o.op = .call { callee := .builtin .append, args := #[s, x], argTypes := #[77, 77] }) {B n : Nat} {v : Value} {xs : List Value} {z : Bool}
  (hG : w.ownsRow B 4 1 v n xs) (hl : (n + 1) * 8 ≤ 140737488351232) (hB : B ≤ w.heap.size)
  (hs : a.eval s = v) {N : Nat} (hx : a.eval x = .slice (some ⟨N, 0, none⟩) 1 1) (hN : N = w.heap.size)
  (h : ∀ v' w', w'.ownsRow B 4 1 v' (n + 1) (xs ++ [.bool z]) → Av (fun b => v.ownBlock = some b) w w' → (v'.ownBlock = v.ownBlock ∨ v'.ownBlock = some (w.heap.size + 1)) → wpList Tryz.prog ops Q rest (a.put o.dst v') w') :
  wpList Tryz.prog ops Q (o :: rest) a (w.alloc (.cells #[.bool z] 4)) := by
 subst hN
 obtain ⟨i0, hi, hz0, hz1, hz2⟩ := info_parts Tryz.infoBool
 refine wpList_append_own_at _ hgd s x 77 ho B 4 i0 _ 1 1 Tryz.underlying77 hi hz0 hz1 hz2 rfl (by decide) v n _ hs (hG.alloc _) ⟨w.heap.size, 0, none⟩ 1 1 [.bool z] hx rfl
  (World.news_of_block (cs := #[.bool z]) (t := 4) (fr := (0, 0)) (heap_alloc_new w _)) ?_ ?_ (by omega) (by simp; omega) ?_
 ·intro u hu
  simp only [List.mem_cons, List.not_mem_nil, or_false] at hu
  subst hu; rfl
 ·unfold maxLen; omega
 ·intro v' w' hown' hgrow _ hat
  exact h v' w' hown' (Av.grown ((Av.refl _ _).alloc _) hgrow (fun k hk _ => hk)) (by simpa using hat)
theorem KF {ops : Array Oper} {rest : List Oper} {o : Oper} {a : Act} {w : World} {Q : Exit → Act → World → Prop} (hgd : o.guard = none) (s x : Operand)
  (ho : o.op = .call { callee := .builtin .append, args := #[s, x], argTypes := #[78, 78] }) {B n : Nat} {v : Value} {xs : List Value} {z : Int}
  (hG : w.ownsRow B 33 1 v n xs) (hl : (n + 1) * 8 ≤ 140737488351232) (hB : B ≤ w.heap.size)
  (hs : a.eval s = v) {N : Nat} (hx : a.eval x = .slice (some ⟨N, 0, none⟩) 1 1) (hN : N = w.heap.size)
  (h : ∀ v' w', w'.ownsRow B 33 1 v' (n + 1) (xs ++ [.int .i64 z]) → Av (fun b => v.ownBlock = some b) w w' → (v'.ownBlock = v.ownBlock ∨ v'.ownBlock = some (w.heap.size + 1)) → wpList Tryz.prog ops Q rest (a.put o.dst v') w') :
  wpList Tryz.prog ops Q (o :: rest) a (w.alloc (.cells #[.int .i64 z] 33)) := by
 subst hN
 obtain ⟨i0, hi, hz0, hz1, hz2⟩ := info_parts Tryz.infoErr
 refine wpList_append_own_at _ hgd s x 78 ho B 33 i0 _ 1 8 Tryz.underlying78 hi hz0 hz1 hz2 rfl (by decide) v n _ hs (hG.alloc _) ⟨w.heap.size, 0, none⟩ 1 1 [.int .i64 z] hx rfl
  (World.news_of_block (cs := #[.int .i64 z]) (t := 33) (fr := (0, 0)) (heap_alloc_new w _)) ?_ ?_ (by omega) (by simp; omega) ?_
 ·intro u hu
  simp only [List.mem_cons, List.not_mem_nil, or_false] at hu
  subst hu; rfl
 ·unfold maxLen; omega
 ·intro v' w' hown' hgrow _ hat
  exact h v' w' hown' (Av.grown ((Av.refl _ _).alloc _) hgrow (fun k hk _ => hk)) (by simpa using hat)
def Tf (l : List An) (a : Ac) : Int := if CJ l ≠ 0 then CJ l else Di l a
def RZ (l : List An) (a : Ac) : List An := if Tf l a = 0 then Ej l a else []
def WV (l : List An) (a : Ac) : Bool := if Tf l a = 0 then LU l a else false
theorem Np (l : List An) (a : Ac) (cv ov uv : Value) (S S1 : Nat → Prop) (w : World) (h : AJ S w cv l) (ha : Eu S1 w a ov uv) (ht : QG w) :
  Calls Tryz.prog 37 #[.agg #[cv], Jh a ov uv] w fun e w' => ∃ v', e = .returned (.tuple #[.agg #[v'], .bool (WV l a), .int .i64 (Tf l a)]) ∧ Ec w.heap.size w' v' (RZ l a) ∧ Below w.heap.size w w' := by
 obtain ⟨oa, oc, rfl⟩ := ha.objs.vshape
 obtain ⟨⟨ua, uc⟩, rfl⟩ := ha.upds.shape
 obtain ⟨sa, sc, rfl⟩ := h.vshape
 have HA := zh ha
 have H := zh h
 have HTw := zh ht
 have HE := zh (show Tf l a = if CJ l ≠ 0 then CJ l else Di l a from rfl)
 have HL := zh (show RZ l a = if Tf l a = 0 then Ej l a else [] from rfl)
 have HD := zh (show WV l a = if Tf l a = 0 then LU l a else false from rfl)
 obtain ⟨R, hR, hR1, HB0⟩ := AI w [.cells #[.slice sa l.length sc] 66, .cells #[.int .i64 a.kind, .int .i64 a.on, .int .i64 a.up, .int .i64 a.late, .slice oa a.push.objects.length oc, .slice ua a.push.updates.length uc, .bool a.push.force] 68, .cells #[.slice none 0 0] 66]
 simp only [List.foldl] at hR1
 have hRb := hR.below
 have hRn := hR.next
 have c0 := fun x (hx : In R x) => Aa (j := 0) (HB0 x hx 0 _ rfl) rfl
 have a0 := fun x (hx : In R x) => Aa (j := 0) (HB0 x hx 1 _ rfl) rfl
 have a1 := fun x (hx : In R x) => Aa (j := 1) (HB0 x hx 1 _ rfl) rfl
 have a2 := fun x (hx : In R x) => Aa (j := 2) (HB0 x hx 1 _ rfl) rfl
 have a3 := fun x (hx : In R x) => Aa (j := 3) (HB0 x hx 1 _ rfl) rfl
 have a4 := fun x (hx : In R x) => Aa (j := 4) (HB0 x hx 1 _ rfl) rfl
 have a5 := fun x (hx : In R x) => Aa (j := 5) (HB0 x hx 1 _ rfl) rfl
 have a6 := fun x (hx : In R x) => Aa (j := 6) (HB0 x hx 1 _ rfl) rfl
 simp only [Nat.add_zero] at c0
 have HZ := zh (fun x (hx : In R x) => show x.heap[w.heap.size + 2]? = some (.cells #[.slice none 0 0] 66 (0, 0)) from HB0 x hx 2 _ rfl)
 have HSz := zh (fun x (hx : In R x) => show w.heap.size + 3 ≤ x.heap.size from lt_of_block (HB0 x hx 2 _ rfl))
 clear HB0
 have HCk := zh (fun x (hx : In R x) => KL l _ _ x (H.out.below (hRb _ hx)))
 have cc := c0 _ hR1
 clear h ha ht
 simp only [Jh]
 by_cases hz : CJ l = 0
 case neg =>
  have HE2 := zh (show Tf l a = CJ l by rw [HE.out, if_pos hz])
  have HL2 := zh (show RZ l a = [] by rw [HL.out, HE2.out, if_neg hz])
  have HD2 := zh (show WV l a = false by rw [HD.out, HE2.out, if_neg hz])
  have q1 : (CJ l == 0) = false := by simpa using hz
  have q2 : (CJ l != 0) = true := by simpa using hz
  clear hz HE HL HD
  generalize CJ l = ce at *
  go_enter Tryz.func37, Tryz.ntmps37
  go_wp2_with fail
  refine (HCk.out _ hR1).mono ?_
  rintro e w1 ⟨rfl, hb1⟩
  have hR2 := hRn _ _ hR1 hb1
  clear cc hb1
  have cc := c0 _ hR2
  have hR3 := hR.alloc _ (.cells #[.slice sa l.length sc, .bool false] 145) hR2
  have HZW := zh (HZ.out _ hR3)
  have HBW := zh (hRb _ hR3)
  have gz := Aa (j := 0) HZW.out rfl
  have fz := Ab (j := 0) HZW.out
  go_wp2_with fail
  have hu5 : Av (fun b => b = w.heap.size + 2) (w1.alloc (.cells #[.slice sa l.length sc, .bool false] 145)) ((w1.alloc (.cells #[.slice sa l.length sc, .bool false] 145)).setCell ⟨w.heap.size + 2, 0, none⟩ (.slice none 0 0)) := (Av.refl (fun b => b = w.heap.size + 2) (w1.alloc (.cells #[.slice sa l.length sc, .bool false] 145))).setCell (p := ⟨w.heap.size + 2, 0, none⟩) (fun _ => rfl) _
  have hk5 : ((w1.alloc (.cells #[.slice sa l.length sc, .bool false] 145)).setCell ⟨w.heap.size + 2, 0, none⟩ (.slice none 0 0)).heap[w.heap.size + 2]? = some (.cells #[.slice none 0 0] 66 (0, 0)) := Ad (j := 0) HZW.out (.slice none 0 0)
  have hB5 := HBW.out.trans (hu5.below (B := w.heap.size) HBW.out.size (fun b hb => by have e2 : b = w.heap.size + 2 := hb; omega))
  generalize (w1.alloc (.cells #[.slice sa l.length sc, .bool false] 145)).setCell ⟨w.heap.size + 2, 0, none⟩ (.slice none 0 0) = x5 at *
  have k0 := Aa (j := 0) hk5 rfl
  refine bodyPost_ret (v := .tuple #[.agg #[.slice none 0 0], .bool false, .int .i64 ce]) (by simp [results, Tryz.results37, go_sem]; simp [k0] <;> rfl) rfl ?_
  refine ⟨_, by rw [HD2.out, HE2.out] <;> rfl, by rw [HL2.out]; exact ⟨fun _ => False, BD.nil _ _ _ (fun _ h => h.elim), fun _ h => h.elim⟩, hB5⟩
 have Hc := zh (Eg.1 hz)
 have hl3 := Hc.out.len
 rw [if_neg (by simpa using hz)] at HE
 rw [hz] at HCk
 have H3 := H.out
 rw [hl3] at H3
 have H3 := zh H3
 have Hl3 := zh hl3
 clear hz hl3
 obtain ⟨E, hE⟩ : ∃ E, E = Di l a := ⟨_, rfl⟩
 rw [← hE] at HE
 have HEe := zh hE
 clear hE
 go_enter Tryz.func37, Tryz.ntmps37
 go_wp2_with fail
 refine (HCk.out _ hR1).mono ?_
 rintro e w1 ⟨rfl, hb1⟩
 have hR2 := hRn _ _ hR1 hb1
 clear cc hb1
 have cc := c0 _ hR2
 have HKn := zh (heap_alloc_new w1 (.cells #[.slice sa l.length sc, .bool false] 145))
 have hR3 := hR.alloc _ (.cells #[.slice sa l.length sc, .bool false] 145) hR2
 have hK1 := HSz.out _ hR2
 rw [Hl3.out] at HKn
 have HDo := zh (Lw w1.heap.size sa sc l a _ _ S S1 (w1.alloc (.cells #[.slice sa 3 sc, .bool false] 145)) HKn.out (H3.out.below (by have := hRb _ hR3; rw [Hl3.out] at this; exact this)) Hc.out (HA.out.below (by have := hRb _ hR3; rw [Hl3.out] at this; exact this)) (HTw.out.below (by have := hRb _ hR3; rw [Hl3.out] at this; exact this)))
 simp only [Jh] at HDo
 rw [← HEe.out] at HDo
 have b0 := a0 _ hR3
 have b1 := a1 _ hR3
 have b2 := a2 _ hR3
 have b3 := a3 _ hR3
 have b4 := a4 _ hR3
 have b5 := a5 _ hR3
 have b6 := a6 _ hR3
 rw [← Hl3.out] at HDo
 go_wp2_with fail
 refine HDo.out.mono ?_
 rintro e w3 ⟨rfl, hdn⟩
 have Hdn := zh hdn
 clear hdn HDo b0 b1 b2 b3 b4 b5 b6 cc
 by_cases hE0 : E = 0
 case neg =>
  have hb3 := Hdn.out.1 hE0
  have hR4 := hRn _ _ hR3 hb3
  have HE2 := HE
  have HL2 := zh (show RZ l a = [] by rw [HL.out, HE2.out, if_neg hE0])
  have HD2 := zh (show WV l a = false by rw [HD.out, HE2.out, if_neg hE0])
  have q2 : (E != 0) = true := by simpa using hE0
  clear hb3 hE0 HE HL HD Hdn
  have HZW := zh (HZ.out _ hR4)
  have HBW := zh (hRb _ hR4)
  have gz := Aa (j := 0) HZW.out rfl
  have fz := Ab (j := 0) HZW.out
  go_wp2_with fail
  have hu5 : Av (fun b => b = w.heap.size + 2) w3 (w3.setCell ⟨w.heap.size + 2, 0, none⟩ (.slice none 0 0)) := (Av.refl (fun b => b = w.heap.size + 2) w3).setCell (p := ⟨w.heap.size + 2, 0, none⟩) (fun _ => rfl) _
  have hk5 : (w3.setCell ⟨w.heap.size + 2, 0, none⟩ (.slice none 0 0)).heap[w.heap.size + 2]? = some (.cells #[.slice none 0 0] 66 (0, 0)) := Ad (j := 0) HZW.out (.slice none 0 0)
  have hB5 := HBW.out.trans (hu5.below (B := w.heap.size) HBW.out.size (fun b hb => by have e2 : b = w.heap.size + 2 := hb; omega))
  generalize w3.setCell ⟨w.heap.size + 2, 0, none⟩ (.slice none 0 0) = x5 at *
  have k0 := Aa (j := 0) hk5 rfl
  refine bodyPost_ret (v := .tuple #[.agg #[.slice none 0 0], .bool false, .int .i64 E]) (by simp [results, Tryz.results37, go_sem]; simp [k0] <;> rfl) rfl ?_
  refine ⟨_, by rw [HD2.out, HE2.out] <;> rfl, by rw [HL2.out]; exact ⟨fun _ => False, BD.nil _ _ _ (fun _ h => h.elim), fun _ h => h.elim⟩, hB5⟩
 obtain ⟨hu3, v3, hk3, ho3⟩ := Hdn.out.2 hE0
 subst hE0
 clear Hdn
 obtain ⟨a3, c3, rfl⟩ := ho3.shape
 have HE2 := HE
 have HL2 := zh (show RZ l a = Ej l a by rw [HL.out, if_pos HE2.out])
 have HD2 := zh (show WV l a = LU l a by rw [HD.out, if_pos HE2.out])
 clear HE HL HD
 generalize LU l a = ad at *
 have HZW := zh (hu3.blk (HZ.out _ hR3) (fun e => by have e2 : w.heap.size + 2 = w1.heap.size := e; omega))
 have HBW := zh ((hRb _ hR3).trans (hu3.below (B := w.heap.size) (hRb _ hR3).size (fun b hb => by have e2 : b = w1.heap.size := hb; omega)))
 have HK3 := zh hk3
 have HO3 := zh ho3
 have hKz : (w1.alloc (.cells #[.slice sa l.length sc, .bool false] 145)).heap.size = w1.heap.size + 1 := by simp
 have HKz := zh hKz
 clear hu3 hk3 ho3 hKz
 rw [HKz.out] at HO3
 generalize w1.heap.size = K at *
 go_upto_region 7 with fail
 refine wp_region_held (S := In (fun x : World => x.cell? ⟨K, 0, none⟩ = some (.slice a3 (Ej l a).length c3) ∧ x.cell? ⟨K, 1, none⟩ = some (.bool ad))) (by kernel_rfl) ?_
 change wpAnyH _ _ _ _ _ _ _ _ (World.drew _)
 have HZ0 := zh (show w3.drew.heap[w.heap.size + 2]? = _ from HZW.out)
 have HBx := zh (HBW.out.trans (Below.refl _ _).drew)
 have HOx := zh (HO3.out.below (Below.refl _ _).drew)
 have hC0 : In (fun x : World => x.cell? ⟨K, 0, none⟩ = some (.slice a3 (Ej l a).length c3) ∧ x.cell? ⟨K, 1, none⟩ = some (.bool ad)) w3.drew := show (fun x : World => x.cell? ⟨K, 0, none⟩ = some (.slice a3 (Ej l a).length c3) ∧ x.cell? ⟨K, 1, none⟩ = some (.bool ad)) w3.drew from ⟨Aa (j := 0) HK3.out rfl, Aa (j := 1) HK3.out rfl⟩
 clear HZW HBW HO3 HK3
 generalize w3.drew = y0 at *
 refine tk 0 (.pointer (some ⟨K, 0, none⟩)) (fun w hSw => ?_) hC0 ?_
 ·go_simp
 simp only [tkS]
 refine tk 1 (.pointer (some ⟨K, 0, none⟩)) (fun w hSw => ?_) hC0 ?_
 ·go_simp
 simp only [tkS]
 refine tk 2 (.pointer (some ⟨K, 0, none⟩)) (fun w hSw => ?_) hC0 ?_
 ·go_simp
 simp only [tkS]
 refine tk 3 (.agg #[.slice a3 (Ej l a).length c3]) (fun w hSw => ?_) hC0 ?_
 ·have yq : _ ∧ _ := hSw; have yy := yq.1; go_simp
 simp only [tkS]
 refine tk 4 (.pointer (some ⟨K, 0, none⟩)) (fun w hSw => ?_) hC0 ?_
 ·go_simp
 simp only [tkS]
 refine tk 5 (.pointer (some ⟨K, 0, none⟩)) (fun w hSw => ?_) hC0 ?_
 ·go_simp
 simp only [tkS]
 refine tk 6 (.pointer (some ⟨K, 1, none⟩)) (fun w hSw => ?_) hC0 ?_
 ·go_simp
 simp only [tkS]
 refine tk 7 (.bool ad) (fun w hSw => ?_) hC0 ?_
 ·have yq : _ ∧ _ := hSw; have yy := yq.2; go_simp
 simp only [tkS]
 refine al1 8 ?_
 refine Or.inl ?_
 have HZW := HZ0
 have HBW := HBx
 have gz := Aa (j := 0) HZW.out rfl
 have fz := Ab (j := 0) HZW.out
 have hu5 : Av (fun b => b = w.heap.size + 2) y0 (y0.setCell ⟨w.heap.size + 2, 0, none⟩ (.slice a3 (Ej l a).length c3)) := (Av.refl (fun b => b = w.heap.size + 2) y0).setCell (p := ⟨w.heap.size + 2, 0, none⟩) (fun _ => rfl) _
 have hk5 : (y0.setCell ⟨w.heap.size + 2, 0, none⟩ (.slice a3 (Ej l a).length c3)).heap[w.heap.size + 2]? = some (.cells #[.slice a3 (Ej l a).length c3] 66 (0, 0)) := Ad (j := 0) HZW.out (.slice a3 (Ej l a).length c3)
 have hB5 := HBW.out.trans (hu5.below (B := w.heap.size) HBW.out.size (fun b hb => by have e2 : b = w.heap.size + 2 := hb; omega))
 have hq := (show _ ∧ _ from hC0)
 have hC1 : In (fun x : World => x.cell? ⟨K, 0, none⟩ = some (.slice a3 (Ej l a).length c3) ∧ x.cell? ⟨K, 1, none⟩ = some (.bool ad)) (y0.setCell ⟨w.heap.size + 2, 0, none⟩ (.slice a3 (Ej l a).length c3)) := show (fun x : World => x.cell? ⟨K, 0, none⟩ = some (.slice a3 (Ej l a).length c3) ∧ x.cell? ⟨K, 1, none⟩ = some (.bool ad)) (y0.setCell ⟨w.heap.size + 2, 0, none⟩ (.slice a3 (Ej l a).length c3)) from ⟨hu5.cell hq.1 (fun e => by have e2 : K = w.heap.size + 2 := e; omega), hu5.cell hq.2 (fun e => by have e2 : K = w.heap.size + 2 := e; omega)⟩
 clear hq
 have Ho5 := zh ((HOx.out.upd hu5 (fun b hb _ e => by have e2 : b = w.heap.size + 2 := e; omega)).mono (B' := w.heap.size) (by omega))
 have Hk5 := zh hk5
 have HB5 := zh hB5
 clear hu5 hk5 hB5
 go_wp2_with fail
 first | refine ⟨hC1, ?_⟩ | skip
 change wpAnyH _ _ _ _ _ _ _ _ (y0.setCell ⟨w.heap.size + 2, 0, none⟩ (.slice a3 (Ej l a).length c3))
 clear gz fz HZ0
 generalize y0.setCell ⟨w.heap.size + 2, 0, none⟩ (.slice a3 (Ej l a).length c3) = x5 at *
 refine tk 9 (.bool ad) (fun w hSw => ?_) hC1 ?_
 ·go_simp
 simp only [tkS]
 refine tk 10 (.int .i64 0) (fun w hSw => ?_) hC1 ?_
 ·go_simp
 simp only [tkS]
 refine wpAnyH_done (by kernel_rfl) ?_ _
 have k0 := Aa (j := 0) Hk5.out rfl
 go_wp2_with fail
 refine bodyPost_ret (v := .tuple #[.agg #[.slice a3 (Ej l a).length c3], .bool ad, .int .i64 0]) (by simp [results, Tryz.results37, go_sem]; simp [k0] <;> rfl) rfl ?_
 refine ⟨_, by rw [HD2.out, HE2.out] <;> rfl, by rw [HL2.out]; exact Ho5.out, HB5.out⟩
theorem RE (w : World) :
  Calls Tryz.prog 47 #[] w fun e w' => ∃ v, e = .returned (.agg #[v]) ∧ AJ (fun b => w.heap.size ≤ b) w' v [Ds, Ds, Ds] ∧ Below w.heap.size w w' := by
 have hmk : ∀ w, (Instr.makeSlice 64 (.int .i64 3) (.int .i64 3)).run Tryz.prog w = .ok (.slice (some ⟨w.heap.size, 0, none⟩) 3 3) (w.alloc (.cells z21 28)) := fun _ => by kernel_rfl
 have hz0 := heap_alloc_new (w.alloc (.cells #[.slice (some ⟨w.heap.size + 1, 0, none⟩) 3 3] 66)) (.cells z21 28)
 have hc0 := (((Below.refl _ _).alloc (Nat.le_refl _) (.cells z21 28)).block _ (by simp)).trans (heap_alloc_new w (.cells #[.slice (some ⟨w.heap.size + 1, 0, none⟩) 3 3] 66))
 have hs0 : (w.alloc (.cells #[.slice (some ⟨w.heap.size + 1, 0, none⟩) 3 3] 66)).heap.size = w.heap.size + 1 := by simp
 rw [hs0] at hz0
 have hb0 := ((Below.refl w.heap.size w).alloc (Nat.le_refl _) (.cells #[.slice (some ⟨w.heap.size + 1, 0, none⟩) 3 3] 66)).alloc (by simp) (.cells z21 28)
 have HZ := zh hz0
 have HC := zh hc0
 have HB := zh hb0
 clear hz0 hc0 hb0 hs0
 go_enter Tryz.func47, Tryz.ntmps47
 go_wp2_with fail
 generalize ((w.alloc (.cells #[.slice (some ⟨w.heap.size + 1, 0, none⟩) 3 3] 66)).alloc (.cells z21 28)) = x at *
 have k0 := Aa (j := 0) HC.out rfl
 have hz : ∀ i, i < 3 → Af [Ds, Ds, Ds] i = Ds := fun i hi => by
  have : i = 0 ∨ i = 1 ∨ i = 2 := by omega
  rcases this with rfl | rfl | rfl <;> rfl
 refine bodyPost_ret (v := .agg #[.slice (some ⟨w.heap.size + 1, 0, none⟩) 3 3]) (by simp [results, Tryz.results47, go_sem]; simp [k0] <;> rfl) rfl ?_
 refine ⟨_, rfl, ⟨fun _ => ⟨.slice none 0 0, .slice none 0 0, .slice none 0 0, .slice none 0 0⟩, ⟨_, 3, rfl, by decide, by decide, by decide, fun _ => ⟨_, 0, rfl, by omega, fun i hi j u hu => ?_⟩⟩, fun i hi => ?_⟩, HB.out⟩
 ·replace hu : (BA (Af [Ds, Ds, Ds] i) ⟨.slice none 0 0, .slice none 0 0, .slice none 0 0, .slice none 0 0⟩)[j]? = some u := hu
  rw [hz i hi] at hu
  have hj : j < 7 := by
   rcases Nat.lt_or_ge j 7 with h | h
   ·exact h
   ·rw [List.getElem?_eq_none (by simpa [BA] using h)] at hu; cases hu
  have h1 : i = 0 ∨ i = 1 ∨ i = 2 := by have : i < 3 := hi; omega
  have h2 : j = 0 ∨ j = 1 ∨ j = 2 ∨ j = 3 ∨ j = 4 ∨ j = 5 ∨ j = 6 := by omega
  rcases h1 with rfl | rfl | rfl <;> rcases h2 with rfl | rfl | rfl | rfl | rfl | rfl | rfl <;> (cases hu; exact Aa HZ.out rfl)
 ·rw [hz i hi]; exact El _ _
theorem Vy.step {K : Nat} {w w' : World} {l : List An} {a : Ac} {v : Value} {S : Nat → Prop} (hd : Vy K w w' (Di l a) (Ej l a) (LU l a)) (hK : w.heap[K]? = some (.cells #[v, .bool false] 145 (0, 0))) (h : AJ S w v l) (hc : Be l) :
  ∃ v', w'.heap[K]? = some (.cells #[v', .bool (EY l a)] 145 (0, 0)) ∧ Av (fun b => b = K) w w' ∧ AJ (fun b => S b ∨ w.heap.size ≤ b) w' v' (Fc l a) := by
 by_cases he : Di l a = 0
 ·obtain ⟨hu, v', h1, F, hO, hF⟩ := hd.2 he
  have e1 : EY l a = LU l a := by unfold EY; rw [if_pos he]
  have e2 : Fc l a = Ej l a := by unfold Fc; rw [if_pos he]
  rw [e1, e2]
  exact ⟨v', h1, hu, hO.reps (by rw [(Lf hc he).len]; omega) (fun b hb => .inr (hF b hb)) (fun b hb => .inr (hO.block hb).1)⟩
 ·have hb := hd.1 he
  have e1 : EY l a = false := by unfold EY; rw [if_neg he]
  have e2 : Fc l a = l := by unfold Fc; rw [if_neg he]
  rw [e1, e2]
  have hu := Fz hb
  exact ⟨v, (hb.block _ (lt_of_block hK)).trans hK, ⟨hu.os, hu.tape, hu.output, hu.size, fun b hb _ => hu.block b hb id⟩, (h.below hb).weaken fun b hb => .inl hb⟩
structure KK (B D : Nat) (w : World) (s : List Ac) (k : Nat) (tv dv : Value) : Prop where
 box : ∃ v, w.heap[D]? = some (.cells #[v] 66 (0, 0)) ∧ AJ (fun b => B ≤ b ∧ b ≠ D ∧ tv.ownBlock ≠ some b ∧ dv.ownBlock ≠ some b) w v (Ek s k)
 told : w.ownsRow B 4 1 tv k ((Qj s k).map .bool)
 done : w.ownsRow B 33 1 dv k ((KW s k).map (.int .i64))
 apart : ∀ g, tv.ownBlock = some g → dv.ownBlock ≠ some g
theorem KK.below {B D : Nat} {w w' : World} {s : List Ac} {k : Nat} {tv dv : Value} (h : KK B D w s k tv dv) (hb : Below w.heap.size w w') : KK B D w' s k tv dv := by
 obtain ⟨⟨v, h1, h2⟩, h3, h4, h5⟩ := h
 exact ⟨⟨v, Ak h1 hb, h2.below hb⟩, DJ h3 hb, DJ h4 hb, h5⟩
theorem KK.next {B D : Nat} {w3 w4 w5 w6 : World} {s : List Ac} {k : Nat} {tv dv tv' dv' v' : Value} (h : KK B D w3 s k tv dv)
  (hv : AJ (fun b => (B ≤ b ∧ b ≠ D ∧ tv.ownBlock ≠ some b ∧ dv.ownBlock ≠ some b) ∧ b < w3.heap.size) w3 v' (Ek s (k + 1)))
  (h4 : Av (fun b => b = D) w3 w4) (hD : w4.heap[D]? = some (.cells #[v'] 66 (0, 0)))
  (h5 : Av (fun b => tv.ownBlock = some b) w4 w5) (ht : w5.ownsRow B 4 1 tv' (k + 1) ((Qj s (k + 1)).map .bool)) (hta : tv'.ownBlock = tv.ownBlock ∨ tv'.ownBlock = some (w4.heap.size + 1))
  (h6 : Av (fun b => dv.ownBlock = some b) w5 w6) (hd : w6.ownsRow B 33 1 dv' (k + 1) ((KW s (k + 1)).map (.int .i64))) (hda : dv'.ownBlock = dv.ownBlock ∨ dv'.ownBlock = some (w5.heap.size + 1)) :
  KK B D w6 s (k + 1) tv' dv' := by
 obtain ⟨⟨v, b1, b2⟩, ht0, hd0, hap⟩ := h
 have z4 := h4.size
 have z5 := h5.size
 have z6 := h6.size
 have hDl : D < w3.heap.size := lt_of_block b1
 have ntD : tv.ownBlock ≠ some D := Gg ht0 b1 (by decide)
 have ndD : dv.ownBlock ≠ some D := Gg hd0 b1 (by decide)
 have tlt : ∀ g, tv'.ownBlock = some g → g < w5.heap.size := fun g hg => (ht.lt g hg).2
 have told : ∀ g, tv.ownBlock = some g → g < w3.heap.size := fun g hg => (ht0.lt g hg).2
 have dlt : ∀ g, dv.ownBlock = some g → g < w3.heap.size := fun g hg => (hd0.lt g hg).2
 have hap1 : ∀ g, tv'.ownBlock = some g → dv.ownBlock ≠ some g := fun g hg e => by
  rcases hta with h | h
  ·exact hap g (h ▸ hg) e
  ·have e1 : w4.heap.size + 1 = g := by rw [h] at hg; exact Option.some.inj hg
   have := dlt g e; omega
 refine ⟨⟨v', h6.blk (h5.blk hD ntD) ndD, ?_⟩, Fp ht h6 hap1, hd, fun g hg e => ?_⟩
 ·refine (((hv.upd h4 (fun b hb e => hb.1.2.1 e)).upd h5 (fun b hb e => hb.1.2.2.1 e)).upd h6 (fun b hb e => hb.1.2.2.2 e)).weaken fun b hb => ⟨hb.1.1, hb.1.2.1, fun e => ?_, fun e => ?_⟩
  ·rcases hta with h | h
   ·exact hb.1.2.2.1 (h ▸ e)
   ·have e1 : w4.heap.size + 1 = b := by rw [h] at e; exact Option.some.inj e
    have := hb.2; omega
  ·rcases hda with h | h
   ·exact hb.1.2.2.2 (h ▸ e)
   ·have e1 : w5.heap.size + 1 = b := by rw [h] at e; exact Option.some.inj e
    have := hb.2; omega
 ·rcases hda with h | h
  ·exact hap1 g hg (h ▸ e)
  ·have e1 : w5.heap.size + 1 = g := by rw [h] at e; exact Option.some.inj e
   have := tlt g hg; omega
def Sc (s : List Ac) : Nat := if s.length ≤ 12 then s.length else 0
def Yp (s : List Ac) : List An := if s.length ≤ 12 then Ek s s.length else []
def Yv (s : List Ac) : Int := if s.length ≤ 12 then 0 else 2
structure YI (B : Nat) (w : World) (s : List Ac) (v tv dv : Value) : Prop where
 clu : AJ (fun b => B ≤ b) w v (Yp s)
 told : w.ownsRow B 4 1 tv (Sc s) ((Qj s (Sc s)).map .bool)
 done : w.ownsRow B 33 1 dv (Sc s) ((KW s (Sc s)).map (.int .i64))
theorem Rp (s : List Ac) (sv : Value) (S : Nat → Prop) (w : World) (h : Ig S w sv s) (ht : QG w) :
  Calls Tryz.prog 44 #[sv] w fun e w' => ∃ v tv dv, e = .returned (.tuple #[.agg #[v], tv, dv, .int .i64 (Yv s)]) ∧ YI w.heap.size w' s v tv dv ∧ Below w.heap.size w w' := by
 obtain ⟨a, n, cap, fr, HN, rfl, _, _, h3, h4, h5⟩ := h.open
 have HTw := zh ht
 have H4 := zh h4
 have H5 := zh h5
 clear h h4 h5 ht
 obtain ⟨R, hR, hR1, HB0⟩ := AI w [.cells #[.slice none 0 0] 66]
 simp only [List.foldl] at hR1
 have hRb := hR.below
 have hRn := hR.next
 have HZ := zh (fun x (hx : In R x) => show x.heap[w.heap.size]? = some (.cells #[.slice none 0 0] 66 (0, 0)) from HB0 x hx 0 _ rfl)
 clear HB0
 have HN2 := zh (show Sc s = if n ≤ 12 then n else 0 by rw [HN.out]; rfl)
 have HC2 := zh (show Yp s = if n ≤ 12 then Ek s n else [] by rw [HN.out]; rfl)
 have HW2 := zh (show Yv s = if n ≤ 12 then 0 else 2 by rw [HN.out]; rfl)
 have hsz5 : (w.alloc (.cells #[.slice none 0 0] 66)).heap.size = w.heap.size + 1 := by simp
 by_cases hn : n ≤ 12
 case neg =>
  rw [if_neg hn] at HN2 HC2 HW2
  have q1 : (12 : Int) < (n : Int) := by omega
  have HZW := zh (HZ.out _ hR1)
  have HBW := zh (hRb _ hR1)
  have gz := Aa (j := 0) HZW.out rfl
  have fz := Ab (j := 0) HZW.out
  go_enter Tryz.func44, Tryz.ntmps44
  go_wp2_with fail
  refine bodyPost_ret (v := .tuple #[.agg #[.slice none 0 0], .slice none 0 0, .slice none 0 0, .int .i64 2]) (by simp [results, Tryz.results44, go_sem] <;> rfl) rfl ?_
  refine ⟨_, _, _, by rw [HW2.out], ⟨by rw [HC2.out]; exact AJ.nil _ _ _ _ (by omega), by rw [HN2.out]; exact World.ownsRow_nil _ _ _ _, by rw [HN2.out]; exact World.ownsRow_nil _ _ _ _⟩, HBW.out⟩
 rw [if_pos hn] at HN2 HC2 HW2
 have q1 : ¬ (12 : Int) < (n : Int) := by omega
 obtain ⟨x5, hx5⟩ : ∃ x5, x5 = (w.alloc (.cells #[.slice none 0 0] 66)) := ⟨_, rfl⟩
 rw [← hx5] at hR1 hsz5
 have Hx5 := zh hx5
 clear hx5
 obtain ⟨Q, hQ, hQ1, hQu⟩ := EJ x5
 have hQb := hQ.below
 have hQn := hQ.next
 have HQu := zh hQu
 clear hQu
 have HQR := zh (fun x (hx : In Q x) => hRn _ _ hR1 (hQb _ hx))
 have Hs5 := zh hsz5
 clear hsz5
 go_enter Tryz.func44, Tryz.ntmps44
 go_upto_region 3 with fail
 rw [← Hx5.out]
 go_wp2_with fail
 refine (RE _).mono ?_
 rintro e z1 ⟨v1, rfl, hv, hb1⟩
 obtain ⟨a1, c1, rfl⟩ := hv.vshape
 replace hv : AJ (fun b => x5.heap.size ≤ b) z1 (.slice a1 3 c1) US := hv
 have hC1 := hQn _ _ hQ1 hb1
 have hz1 := (hQb _ hC1).size
 have hbA : Below z1.heap.size z1 (z1.alloc (.cells #[.slice a1 3 c1] 66)) := bal
 have hQ9 := hQn _ _ hC1 hbA
 have hb9 := heap_alloc_new z1 (.cells #[.slice a1 3 c1] 66)
 have hv9 := (hv.low.below hbA).weaken (S' := fun b => x5.heap.size ≤ b ∧ b ≠ z1.heap.size) fun b hb => ⟨hb.1, by omega⟩
 have hD9 := hz1
 have Hb9 := zh hb9
 have Hv9 := zh hv9
 clear hb9 hv9 hv hb1 hbA hz1 hC1
 obtain ⟨y9, hy9⟩ : ∃ y9, y9 = (z1.alloc (.cells #[.slice a1 3 c1] 66)) := ⟨_, rfl⟩
 have Hy9 := zh hy9
 rw [← hy9] at Hb9 Hv9 hQ9
 obtain ⟨D, hD⟩ : ∃ D, D = z1.heap.size := ⟨_, rfl⟩
 have HDz := zh hD
 rw [← hD] at Hb9 Hv9 hD9
 clear hD hy9
 go_upto_region 7 with fail
 rw [← Hy9.out]
 rw [← HDz.out]
 clear Hy9 HDz
 have HD9 := zh hD9
 have HA0 : KK x5.heap.size D y9 s 0 (.slice none 0 0) (.slice none 0 0) := ⟨⟨_, Hb9.out, Hv9.out.weaken fun b hb => ⟨hb.1, hb.2, by simp [Value.ownBlock], by simp [Value.ownBlock]⟩⟩, World.ownsRow_nil _ _ _ _, World.ownsRow_nil _ _ _ _, fun g hg => by simp [Value.ownBlock] at hg⟩
 have HA0 := zh HA0
 clear Hb9 Hv9 hD9
 go_loopw [7, 8, 20] (fun s7 s8 i wr => ∃ (k : Nat) (t9 d9 : Value), k ≤ n ∧ i = .int .i64 k ∧ t9 = s7 ∧ d9 = s8 ∧ In Q wr ∧ Hid (KK x5.heap.size D wr s k t9 d9)) (fun _ _ i _ => n - (intOf i).toNat)
 case atStart => exact ⟨0, _, _, Nat.zero_le _, rfl, rfl, rfl, hQ9, HA0⟩
 obtain ⟨k, t9, d9, hk, rfl, rfl, rfl, hQr, HA⟩ := hrel
 obtain ⟨wo, rfl⟩ : ∃ wo : World, wo = wr := ⟨_, rfl⟩
 clear HA0 hQ9
 by_cases hlt : k < n
 case neg =>
  obtain rfl : k = n := by omega
  obtain ⟨v2, hbx, hrv⟩ := HA.out.box
  obtain ⟨a2, c2, rfl⟩ := hrv.vshape
  have hl3 := (Fr s k).len
  rw [hl3] at hbx hrv
  have x0 := Aa (j := 0) hbx rfl
  have HZW := zh (HZ.out _ (HQR.out _ hQr))
  have HBW := zh (hRb _ (HQR.out _ hQr))
  have gz := Aa (j := 0) HZW.out rfl
  have fz := Ab (j := 0) HZW.out
  have Hrv := zh hrv
  clear hrv hbx
  go_wp2_with fail
  have hu5 : Av (fun b => b = w.heap.size) wo (wo.setCell ⟨w.heap.size, 0, none⟩ (.slice a2 3 c2)) := (Av.refl (fun b => b = w.heap.size) wo).setCell (p := ⟨w.heap.size, 0, none⟩) (fun _ => rfl) _
  have hk5 : (wo.setCell ⟨w.heap.size, 0, none⟩ (.slice a2 3 c2)).heap[w.heap.size]? = some (.cells #[.slice a2 3 c2] 66 (0, 0)) := Ad (j := 0) HZW.out (.slice a2 3 c2)
  have hB5 := HBW.out.trans (hu5.below (B := w.heap.size) HBW.out.size (fun b hb => by have e2 : b = w.heap.size := hb; omega))
  generalize wo.setCell ⟨w.heap.size, 0, none⟩ (.slice a2 3 c2) = y5 at *
  have k0 := Aa (j := 0) hk5 rfl
  refine bodyPost_ret (v := .tuple #[.agg #[.slice a2 3 c2], t9, d9, .int .i64 0]) (by simp [results, Tryz.results44, go_sem]; simp [k0] <;> rfl) rfl ?_
  have hs5 := Hs5.out
  refine ⟨_, _, _, by rw [HW2.out], ⟨by rw [HC2.out]; exact (Hrv.out.upd hu5 (fun b hb e => by have e2 : b = w.heap.size := e; have := hb.1; omega)).weaken (fun b hb => by have := hb.1; omega), ?_, ?_⟩, hB5⟩
  ·rw [HN2.out]; exact Ke (Fp HA.out.told hu5 (fun g hg e => by have e2 : g = w.heap.size := e; have := (HA.out.told.lt g hg).1; omega)) (by omega)
  ·rw [HN2.out]; exact Ke (Fp HA.out.done hu5 (fun g hg e => by have e2 : g = w.heap.size := e; have := (HA.out.done.lt g hg).1; omega)) (by omega)
 obtain ⟨b0, off0, rfl, _, k0, k1, k2, k3, k4, k5, k6⟩ := H4.out (by omega)
 have e0 := k0 k wo hlt (hRb _ (HQR.out _ hQr))
 have e1 := k1 k wo hlt (hRb _ (HQR.out _ hQr))
 have e2 := k2 k wo hlt (hRb _ (HQR.out _ hQr))
 have e3 := k3 k wo hlt (hRb _ (HQR.out _ hQr))
 have e4 := k4 k wo hlt (hRb _ (HQR.out _ hQr))
 have e5 := k5 k wo hlt (hRb _ (HQR.out _ hQr))
 have e6 := k6 k wo hlt (hRb _ (HQR.out _ hQr))
 clear k0 k1 k2 k3 k4 k5 k6
 have hj1 : (0 : Int) ≤ (k : Int) := by omega
 have hj2 : (k : Int) < (n : Int) := by omega
 have HAc := zh ((H5.out k hlt).below (hRb _ (HQR.out _ hQr)))
 have hX := hQ.alloc _ (.cells #[.int .i64 (ac s k).kind, .int .i64 (ac s k).on, .int .i64 (ac s k).up, .int .i64 (ac s k).late, .slice (fr k).oa (ac s k).push.objects.length (fr k).oc, .slice (fr k).ua (ac s k).push.updates.length (fr k).uc, .bool (ac s k).push.force] 68) hQr
 have HU := zh (heap_alloc_new wo (.cells #[.int .i64 (ac s k).kind, .int .i64 (ac s k).on, .int .i64 (ac s k).up, .int .i64 (ac s k).late, .slice (fr k).oa (ac s k).push.objects.length (fr k).oc, .slice (fr k).ua (ac s k).push.updates.length (fr k).uc, .bool (ac s k).push.force] 68))
 have hbX : Below wo.heap.size wo (wo.alloc (.cells #[.int .i64 (ac s k).kind, .int .i64 (ac s k).on, .int .i64 (ac s k).up, .int .i64 (ac s k).late, .slice (fr k).oa (ac s k).push.objects.length (fr k).oc, .slice (fr k).ua (ac s k).push.updates.length (fr k).uc, .bool (ac s k).push.force] 68)) := bal
 have HAu := zh (HA.out.below hbX)
 have HAcu := zh (HAc.out.below hbX)
 clear hbX HA HAc hQr
 go_upto_region 9 with fail
 generalize wo.alloc (.cells #[.int .i64 (ac s k).kind, .int .i64 (ac s k).on, .int .i64 (ac s k).up, .int .i64 (ac s k).late, .slice (fr k).oa (ac s k).push.objects.length (fr k).oc, .slice (fr k).ua (ac s k).push.updates.length (fr k).uc, .bool (ac s k).push.force] 68) = wu at *
 generalize wo.heap.size = U at *
 clear e0 e1 e2 e3 e4 e5 e6
 obtain ⟨v2, hbx, hrv⟩ := HAu.out.box
 obtain ⟨a2, c2, rfl⟩ := hrv.vshape
 have hl3 := (Fr s k).len
 rw [hl3] at hbx hrv
 have x0 := Aa (j := 0) hbx rfl
 have HK0 := zh (heap_alloc_new wu (.cells #[.slice a2 3 c2, .bool false] 145))
 have hbK : Below wu.heap.size wu (wu.alloc (.cells #[.slice a2 3 c2, .bool false] 145)) := bal
 have hQk := hQn _ _ hX hbK
 have HAck := zh (HAcu.out.below hbK)
 have Hrk := zh (hrv.below hbK)
 have HUk := zh (Ak HU.out hbK)
 have Hbk := zh (Ak hbx hbK)
 have hDl : D < wu.heap.size := lt_of_block hbx
 have hxu := (hQb _ hX).size
 have HDo := zh (Lw wu.heap.size a2 c2 (Ek s k) (ac s k) _ _ _ _ (wu.alloc (.cells #[.slice a2 3 c2, .bool false] 145)) HK0.out Hrk.out (Fr s k) HAck.out (HTw.out.below (hRb _ (HQR.out _ hQk))))
 simp only [Jh] at HDo
 have b0 := Aa (j := 0) HUk.out rfl
 have b1 := Aa (j := 1) HUk.out rfl
 have b2 := Aa (j := 2) HUk.out rfl
 have b3 := Aa (j := 3) HUk.out rfl
 have b4 := Aa (j := 4) HUk.out rfl
 have b5 := Aa (j := 5) HUk.out rfl
 have b6 := Aa (j := 6) HUk.out rfl
 have Hrv := zh hrv
 clear hrv hbx HU
 go_wp2_with fail
 refine HDo.out.mono ?_
 rintro e w3 ⟨rfl, hdn⟩
 clear HDo x0 b0 b1 b2 b3 b4 b5 b6
 obtain ⟨v3, hk3, hu3, hv3⟩ := hdn.step HK0.out Hrk.out (Fr s k)
 obtain ⟨a3, c3, rfl⟩ := hv3.vshape
 have hl4 := (NK (a := ac s k) (Fr s k)).len
 rw [hl4] at hk3 hv3
 have hkz : (wu.alloc (.cells #[.slice a2 3 c2, .bool false] 145)).heap.size = wu.heap.size + 1 := by simp
 have hB3 : Below wu.heap.size wu w3 := hbK.trans (hu3.below (B := wu.heap.size) (by omega) (fun b hb => by have e2 : b = wu.heap.size := hb; omega))
 have HA3 := zh (HAu.out.below hB3)
 have hbD3 := hu3.blk Hbk.out (fun e => by have e2 : D = wu.heap.size := e; omega)
 have hQ3 := HQu.out _ _ _ hQk hu3 (fun b hb => by have e2 : b = wu.heap.size := hb; omega)
 have HV3 := zh ((hv3.low).weaken (S' := fun b => (x5.heap.size ≤ b ∧ b ≠ D ∧ t9.ownBlock ≠ some b ∧ d9.ownBlock ≠ some b) ∧ b < w3.heap.size) fun b hb => ⟨hb.1.elim id (fun h => ⟨by omega, by omega, fun e => by have := (HAu.out.told.lt b e).2; omega, fun e => by have := (HAu.out.done.lt b e).2; omega⟩), hb.2⟩)
 have Hk3 := zh hk3
 have HD3 := zh hbD3
 have hKD : wu.heap.size ≠ D := by omega
 have hK3l : wu.heap.size < w3.heap.size := lt_of_block hk3
 clear hv3 hdn hu3 HK0 Hrk HAck HUk Hbk hbK hB3 hQk hX HAu HAcu Hrv hkz
 generalize wu.heap.size = K at *
 have x0 := Aa (j := 0) Hk3.out rfl
 have gz := Aa (j := 0) HD3.out rfl
 have fz := Ab (j := 0) HD3.out
 generalize htb : EY (Ek s k) (ac s k) = tb at *
 generalize hte : Di (Ek s k) (ac s k) = te at *
 go_upto_region 12 with fail
 have hu4 : Av (fun b => b = D) w3 (w3.setCell ⟨D, 0, none⟩ (.slice a3 3 c3)) := (Av.refl (fun b => b = D) w3).setCell (p := ⟨D, 0, none⟩) (fun _ => rfl) _
 have hD4 : (w3.setCell ⟨D, 0, none⟩ (.slice a3 3 c3)).heap[D]? = some (.cells #[.slice a3 3 c3] 66 (0, 0)) := Ad (j := 0) HD3.out (.slice a3 3 c3)
 have x1 := hu4.cell (Aa (j := 1) Hk3.out rfl) hKD
 have hQ4 := HQu.out _ _ _ hQ3 hu4 (fun b hb => by have e2 : b = D := hb; have := HD9.out; omega)
 have ntD : t9.ownBlock ≠ some D := Gg HA3.out.told HD3.out (by decide)
 have ndD : d9.ownBlock ≠ some D := Gg HA3.out.done HD3.out (by decide)
 have HT4 := zh (Fp HA3.out.told hu4 (fun g hg e => ntD (by have e2 : g = D := e; rw [hg, e2])))
 have HO4 := zh (Fp HA3.out.done hu4 (fun g hg e => ndD (by have e2 : g = D := e; rw [hg, e2])))
 have hB4 := (hQb _ hQ4).size
 have Hu4 := zh hu4
 have HD4 := zh hD4
 clear hu4 hD4 x0 gz fz ntD ndD hQ3
 generalize (w3.setCell ⟨D, 0, none⟩ (.slice a3 3 c3)) = w4 at *
 go_wp2_with (at_builtin; refine JM (z := tb) rfl _ _ rfl HT4.out (by omega) hB4 rfl rfl (by first | rfl | simp) ?_)
 intro tv w5 ht5 hu5 hta
 have HO5 := zh (Fp HO4.out hu5 (fun g hg e => HA3.out.apart g e hg))
 have hQ5 := HQu.out _ _ _ hQ4 hu5 (fun b hb => (HT4.out.lt b hb).1)
 have hB5 := (hQb _ hQ5).size
 have Ht5 := zh ht5
 have Hu5 := zh hu5
 have Hta := zh hta
 clear ht5 hu5 hta x1
 go_wp2_with (at_builtin; refine KF (z := te) rfl _ _ rfl HO5.out (by omega) hB5 rfl rfl (by first | rfl | simp) ?_)
 intro dv w6 hd6 hu6 hda
 have hQ6 := HQu.out _ _ _ hQ5 hu6 (fun b hb => (HO5.out.lt b hb).1)
 have HA6 := zh (show KK x5.heap.size D w6 s (k + 1) tv dv from HA3.out.next HV3.out Hu4.out HD4.out Hu5.out (by rw [show (Qj s (k + 1)).map Value.bool = (Qj s k).map Value.bool ++ [.bool tb] from by rw [← htb, Qj, List.map_append]; rfl]; exact Ht5.out) Hta.out hu6 (by rw [show (KW s (k + 1)).map (Value.int .i64) = (KW s k).map (Value.int .i64) ++ [.int .i64 te] from by rw [← hte, KW, List.map_append]; rfl]; exact hd6) hda)
 go_wp2_with fail
 go_roundw
 case rel => exact ⟨k + 1, _, _, by omega, by go_num, rfl, rfl, hQ6, HA6⟩
 case measure => simp [intOf]; omega
theorem Qz {l : List An} {a : Ac} (hc : Be l) : Tf l a = Di l a ∧ RZ l a = Gk l a ∧ WV l a = JP l a := by
 have h := Eg.2 hc
 have e : Tf l a = Di l a := by unfold Tf; rw [if_neg (by simpa using h)]
 exact ⟨e, by unfold RZ Gk; rw [e], by unfold WV JP; rw [e]⟩
theorem Qq {l : List An} {a : Ac} (h : CJ l ≠ 0) : Tf l a = CJ l ∧ RZ l a = [] ∧ WV l a = false := by
 have e : Tf l a = CJ l := by unfold Tf; rw [if_pos h]
 exact ⟨e, by unfold RZ; rw [e, if_neg h], by unfold WV; rw [e, if_neg h]⟩
theorem Sr {l : List An} (h : CJ l ≠ 0) : Nj l = ⟨#[]⟩ := by unfold Nj; rw [if_neg h]
theorem Sg {l : List An} (hc : Be l) : Nj l = Mn (Af l (Co l)) := by unfold Nj; rw [if_pos (Eg.2 hc)]
theorem NN (l : List An) (e : Int) (h : e ≠ 0 → l = []) : Lg l e e l = true := by
 unfold Lg
 by_cases h0 : e = 0
 ·rw [if_pos h0, beq_self_eq_true, Bool.true_and]; exact (DF _ _).2 rfl
 ·rw [if_neg h0, beq_self_eq_true, Bool.true_and, h h0]; exact (DF _ _).2 rfl
theorem WJ {l : List An} {a : Ac} (h : Di l a ≠ 0) : Gk l a = [] := by unfold Gk; rw [if_neg h]
def WK : ByteArray := ⟨#[109, 97, 105, 110]⟩
def CU : BJ := ⟨JD.take 3, [⟨WK, 0, 3⟩], false⟩
def JS : An := ⟨JD.take 3, [⟨WK, 3⟩], 1, 0, CX⟩
def QA : List An := [JS, JS, Ds]
theorem UT (w : World) : Calls Tryz.prog 111 #[] w fun e w' => Vu w w' e CU := by
 have hb0 := (Below.refl w.heap.size w).alloc (Nat.le_refl _) (.cells #[.slice none 0 0, .slice none 0 0, .bool false] 26)
 have hk0 := heap_alloc_new w (.cells #[.slice none 0 0, .slice none 0 0, .bool false] 26)
 have hs0 : (w.alloc (.cells #[.slice none 0 0, .slice none 0 0, .bool false] 26)).heap.size = w.heap.size + 1 := by simp
 have HB0 := zh hb0
 have HK0 := zh hk0
 have HS0 := zh hs0
 clear hb0 hk0 hs0
 go_enter Tryz.func111, Tryz.ntmps111
 go_wp2_with fail
 refine (UY _).mono ?_
 rintro e w1 ⟨v1, rfl, hv1, hb1⟩
 obtain ⟨a1, c1, hcap1, rfl⟩ : ∃ a c, 5 ≤ c ∧ v1 = .slice a JD.length c := let ⟨_, ⟨a, cap, hv, h1, _⟩, _⟩ := hv1; ⟨a, cap, h1, hv⟩
 have hT := hv1.lt.take (i := 3) (by decide)
 have hc3 : (3 : Int) ≤ (c1 : Int) := by omega
 rw [HS0.out] at hb1
 have hz1 := hb1.size
 rw [HS0.out] at hz1
 have hk1 := (hb1.block _ (by omega)).trans HK0.out
 have hB1 := HB0.out.trans (hb1.mono (by omega))
 have hU := Pm w1 CU.updates 107 w1.heap.size rfl (by decide) (fun u hu => by
  simp only [CU, List.mem_cons, List.not_mem_nil, or_false] at hu
  subst hu
  exact ⟨AK _ (by decide), AK _ (by decide), by decide⟩)
 have hbU := (Below.refl w1.heap.size w1).alloc (Nat.le_refl _) (.cells #[.string ⟨#[109, 97, 105, 110]⟩, .int .i64 0, .int .i64 3] 107)
 have hk2 := (hbU.block _ (by omega)).trans hk1
 have hT2 := hT.below hbU
 have hB2 := hB1.trans (hbU.mono (by omega))
 have HT := zh hT2
 have HU := zh (show AM (fun b => b = w1.heap.size) (w1.alloc (.cells #[.string ⟨#[109, 97, 105, 110]⟩, .int .i64 0, .int .i64 3] 107)) (.slice (some ⟨w1.heap.size, 0, none⟩) 1 1) CU.updates from hU)
 have HB2 := zh hB2
 have HK2 := zh hk2
 have hz2 : (w1.alloc (.cells #[.string ⟨#[109, 97, 105, 110]⟩, .int .i64 0, .int .i64 3] 107)).heap.size = w1.heap.size + 1 := by simp
 have g0 := Aa (j := 0) hk2 rfl
 have g1 := Aa (j := 1) hk2 rfl
 have g2 := Aa (j := 2) hk2 rfl
 have f0 := Ab (j := 0) hk2
 have f1 := Ab (j := 1) hk2
 have f2 := Ab (j := 2) hk2
 clear hv1 hT hk1 hB1 hU hbU hk2 hT2 hB2 hb1 HB0 HK0
 go_wp2_with fail
 change bodyPost _ _ _ _ _ (TT w.heap.size (.slice a1 3 c1) (.slice (some ⟨w1.heap.size, 0, none⟩) 1 1) (.bool false) (w1.alloc (.cells #[.string ⟨#[109, 97, 105, 110]⟩, .int .i64 0, .int .i64 3] 107)))
 generalize w1.alloc (.cells #[.string ⟨#[109, 97, 105, 110]⟩, .int .i64 0, .int .i64 3] 107) = w2 at *
 have hb3 := Tr (v0 := .slice a1 3 c1) (v1 := .slice (some ⟨w1.heap.size, 0, none⟩) 1 1) (v2 := .bool false) HK2.out
 have hu3 := QQ w.heap.size (.slice a1 3 c1) (.slice (some ⟨w1.heap.size, 0, none⟩) 1 1) (.bool false) w2
 generalize TT w.heap.size (.slice a1 3 c1) (.slice (some ⟨w1.heap.size, 0, none⟩) 1 1) (.bool false) w2 = w3 at *
 have k0 := Aa (j := 0) hb3 rfl
 have k1 := Aa (j := 1) hb3 rfl
 have k2 := Aa (j := 2) hb3 rfl
 refine bodyPost_ret (v := EH CU (.slice a1 3 c1) (.slice (some ⟨w1.heap.size, 0, none⟩) 1 1)) (by simp [results, Tryz.results111, go_sem]; simp [k0, k1, k2]; rfl) rfl ⟨_, _, rfl, ?_, ?_, ?_⟩
 ·exact (HT.out.upd' hu3 (fun b hb e => by have e2 : b = w.heap.size := e; have h1 := hb.1; have h2 := HS0.out; omega)).weaken fun b hb => by have h1 := hb.1; have h2 := HS0.out; omega
 ·exact (HU.out.upd hu3 (fun b hb e => by have e2 : b = w.heap.size := e; omega)).weaken fun b hb => by omega
 ·exact HB2.out.trans (hu3.below (B := w.heap.size) HB2.out.size (fun b hb => by have e2 : b = w.heap.size := hb; omega))
def bB : ByteArray := ⟨#[98]⟩
def bP : BJ := ⟨[], [⟨bB, 0, 3⟩], false⟩
def Jy : Ac := ⟨1, 0, 7, 4, CU⟩
def Bm : Ac := ⟨1, 0, 6, 0, bP⟩
def Lu : Ac := ⟨2, 2, 0, 0, CX⟩
def Yf : Ac := ⟨3, 3, 0, 0, CX⟩
def Bk : List Ac := [Jy, Bm, Lu, Bm, Yf]
def Yz : An := ⟨JD.take 3, [⟨bB, 3⟩, ⟨WK, 3⟩], 2, 0, CX⟩
def Gp : List An := [JS, Yz, Yz]
theorem Bv : Fc US Jy = QA := (DF _ _).1 (by decide +kernel)
theorem NX : Fc QA Bm = QA := (DF _ _).1 (by decide +kernel)
theorem YS : Fc QA Lu = [JS, JS, JS] := (DF _ _).1 (by decide +kernel)
theorem YW : Fc [JS, JS, JS] Bm = Gp := (DF _ _).1 (by decide +kernel)
theorem Ed : Fc Gp Yf = Gp := (DF _ _).1 (by decide +kernel)
theorem YT : EY US Jy = true := by decide +kernel
theorem YU : EY QA Bm = false := by decide +kernel
theorem YO : EY QA Lu = true := by decide +kernel
theorem YR : EY [JS, JS, JS] Bm = true := by decide +kernel
theorem YV : EY Gp Yf = false := by decide +kernel
theorem YQ : Di Gp Yf = 3 := by decide +kernel
theorem sd : Tf Gp ⟨2, 0, 0, 0, CX⟩ = 0 ∧ WV Gp ⟨2, 0, 0, 0, CX⟩ = true ∧ (RZ Gp ⟨2, 0, 0, 0, CX⟩).length = 3 ∧ (Af (RZ Gp ⟨2, 0, 0, 0, CX⟩) 0).gen = 2 := by decide +kernel
theorem ss : CJ Gp = 0 ∧ Nj Gp = ⟨#[50, 58, 98, 61, 51, 59, 109, 97, 105, 110, 61, 51, 59]⟩ := by decide +kernel
theorem YB : Ek Bk 1 = QA := Bv
theorem Yy : Ek Bk 2 = QA := by rw [show Ek Bk 2 = Fc (Ek Bk 1) Bm from rfl, YB, NX]
theorem Yx : Ek Bk 3 = [JS, JS, JS] := by rw [show Ek Bk 3 = Fc (Ek Bk 2) Lu from rfl, Yy, YS]
theorem Yg : Ek Bk 4 = Gp := by rw [show Ek Bk 4 = Fc (Ek Bk 3) Bm from rfl, Yx, YW]
theorem YL : Ek Bk 5 = Gp := by rw [show Ek Bk 5 = Fc (Ek Bk 4) Yf from rfl, Yg, Ed]
theorem YK : Qj Bk 5 = [true, false, true, true, false] := by
 show [EY US Jy] ++ [EY (Ek Bk 1) Bm] ++ [EY (Ek Bk 2) Lu] ++ [EY (Ek Bk 3) Bm] ++ [EY (Ek Bk 4) Yf] = _
 rw [YB, Yy, Yx, Yg, YT, YU, YO, YR, YV]; rfl
theorem YJ : ∃ l : List Int, l.length = 4 ∧ KW Bk 5 = l ++ [3] := ⟨KW Bk 4, LA _ _, by rw [show KW Bk 5 = KW Bk 4 ++ [Di (Ek Bk 4) Yf] from rfl, Yg, YQ]⟩
theorem So (w : World) : Calls Tryz.prog 109 #[] w fun e w' => ∃ v, e = .returned v ∧ Ig (fun b => w.heap.size ≤ b) w' v Bk ∧ Below w.heap.size w w' := by
 go_enter Tryz.func109, Tryz.ntmps109
 go_wp2_with fail
 refine (UT _).mono ?_
 rintro e w1 ⟨ov, uv, rfl, ho, hu, hb1⟩
 obtain ⟨oa, oc, rfl⟩ := ho.vshape
 obtain ⟨⟨ua, uc⟩, rfl⟩ := hu.shape
 have Ho := zh ho
 have Hu := zh hu
 have HB1 := zh hb1
 clear ho hu hb1
 simp only [EH, show CU.force = false from rfl]
 go_wp2_with fail
 have hz1 : (w1.alloc (.cells #[.string ⟨#[98]⟩, .int .i64 0, .int .i64 3] 107)).heap.size = w1.heap.size + 1 := by simp
 have hz2 : ((w1.alloc (.cells #[.string ⟨#[98]⟩, .int .i64 0, .int .i64 3] 107)).alloc (.cells #[.string ⟨#[98]⟩, .int .i64 0, .int .i64 3] 107)).heap.size = w1.heap.size + 1 + 1 := by simp
 have hU1 : AM (fun b => b = w1.heap.size) (w1.alloc (.cells #[.string ⟨#[98]⟩, .int .i64 0, .int .i64 3] 107)) (.slice (some ⟨w1.heap.size, 0, none⟩) 1 1) bP.updates := Pm w1 bP.updates 107 w1.heap.size rfl (by decide) (fun u hu => by
  simp only [bP, List.mem_cons, List.not_mem_nil, or_false] at hu
  subst hu
  exact ⟨AK _ (by decide), AK _ (by decide), by decide⟩)
 have hU2 : AM (fun b => b = w1.heap.size + 1) ((w1.alloc (.cells #[.string ⟨#[98]⟩, .int .i64 0, .int .i64 3] 107)).alloc (.cells #[.string ⟨#[98]⟩, .int .i64 0, .int .i64 3] 107)) (.slice (some ⟨w1.heap.size + 1, 0, none⟩) 1 1) bP.updates := Pm (w1.alloc (.cells #[.string ⟨#[98]⟩, .int .i64 0, .int .i64 3] 107)) bP.updates 107 (w1.heap.size + 1) hz1.symm (by decide) (fun u hu => by
  simp only [bP, List.mem_cons, List.not_mem_nil, or_false] at hu
  subst hu
  exact ⟨AK _ (by decide), AK _ (by decide), by decide⟩)
 have hX := heap_alloc_new ((w1.alloc (.cells #[.string ⟨#[98]⟩, .int .i64 0, .int .i64 3] 107)).alloc (.cells #[.string ⟨#[98]⟩, .int .i64 0, .int .i64 3] 107)) (.cells #[.int .i64 1, .int .i64 0, .int .i64 7, .int .i64 4, .slice oa CU.objects.length oc, .slice ua CU.updates.length uc, .bool false, .int .i64 1, .int .i64 0, .int .i64 6, .int .i64 0, .slice none 0 0, .slice (some ⟨w1.heap.size, 0, none⟩) 1 1, .bool false, .int .i64 2, .int .i64 2, .int .i64 0, .int .i64 0, .slice none 0 0, .slice none 0 0, .bool false, .int .i64 1, .int .i64 0, .int .i64 6, .int .i64 0, .slice none 0 0, .slice (some ⟨w1.heap.size + 1, 0, none⟩) 1 1, .bool false, .int .i64 3, .int .i64 3, .int .i64 0, .int .i64 0, .slice none 0 0, .slice none 0 0, .bool false] 68)
 rw [hz2] at hX
 have hbU : Below w1.heap.size w1 (w1.alloc (.cells #[.string ⟨#[98]⟩, .int .i64 0, .int .i64 3] 107)) := bal
 have hbV : Below (w1.heap.size + 1) (w1.alloc (.cells #[.string ⟨#[98]⟩, .int .i64 0, .int .i64 3] 107)) (((w1.alloc (.cells #[.string ⟨#[98]⟩, .int .i64 0, .int .i64 3] 107)).alloc (.cells #[.string ⟨#[98]⟩, .int .i64 0, .int .i64 3] 107)).alloc (.cells #[.int .i64 1, .int .i64 0, .int .i64 7, .int .i64 4, .slice oa CU.objects.length oc, .slice ua CU.updates.length uc, .bool false, .int .i64 1, .int .i64 0, .int .i64 6, .int .i64 0, .slice none 0 0, .slice (some ⟨w1.heap.size, 0, none⟩) 1 1, .bool false, .int .i64 2, .int .i64 2, .int .i64 0, .int .i64 0, .slice none 0 0, .slice none 0 0, .bool false, .int .i64 1, .int .i64 0, .int .i64 6, .int .i64 0, .slice none 0 0, .slice (some ⟨w1.heap.size + 1, 0, none⟩) 1 1, .bool false, .int .i64 3, .int .i64 3, .int .i64 0, .int .i64 0, .slice none 0 0, .slice none 0 0, .bool false] 68)) := ((Below.refl _ _).alloc (by omega) _).alloc (by omega) _
 have hbW : Below (w1.heap.size + 1 + 1) ((w1.alloc (.cells #[.string ⟨#[98]⟩, .int .i64 0, .int .i64 3] 107)).alloc (.cells #[.string ⟨#[98]⟩, .int .i64 0, .int .i64 3] 107)) (((w1.alloc (.cells #[.string ⟨#[98]⟩, .int .i64 0, .int .i64 3] 107)).alloc (.cells #[.string ⟨#[98]⟩, .int .i64 0, .int .i64 3] 107)).alloc (.cells #[.int .i64 1, .int .i64 0, .int .i64 7, .int .i64 4, .slice oa CU.objects.length oc, .slice ua CU.updates.length uc, .bool false, .int .i64 1, .int .i64 0, .int .i64 6, .int .i64 0, .slice none 0 0, .slice (some ⟨w1.heap.size, 0, none⟩) 1 1, .bool false, .int .i64 2, .int .i64 2, .int .i64 0, .int .i64 0, .slice none 0 0, .slice none 0 0, .bool false, .int .i64 1, .int .i64 0, .int .i64 6, .int .i64 0, .slice none 0 0, .slice (some ⟨w1.heap.size + 1, 0, none⟩) 1 1, .bool false, .int .i64 3, .int .i64 3, .int .i64 0, .int .i64 0, .slice none 0 0, .slice none 0 0, .bool false] 68)) := (Below.refl _ _).alloc (by omega) _
 have hb := hbU.trans (hbV.mono (by omega))
 have H1 := zh (show AM (fun b => b = w1.heap.size) (((w1.alloc (.cells #[.string ⟨#[98]⟩, .int .i64 0, .int .i64 3] 107)).alloc (.cells #[.string ⟨#[98]⟩, .int .i64 0, .int .i64 3] 107)).alloc (.cells #[.int .i64 1, .int .i64 0, .int .i64 7, .int .i64 4, .slice oa CU.objects.length oc, .slice ua CU.updates.length uc, .bool false, .int .i64 1, .int .i64 0, .int .i64 6, .int .i64 0, .slice none 0 0, .slice (some ⟨w1.heap.size, 0, none⟩) 1 1, .bool false, .int .i64 2, .int .i64 2, .int .i64 0, .int .i64 0, .slice none 0 0, .slice none 0 0, .bool false, .int .i64 1, .int .i64 0, .int .i64 6, .int .i64 0, .slice none 0 0, .slice (some ⟨w1.heap.size + 1, 0, none⟩) 1 1, .bool false, .int .i64 3, .int .i64 3, .int .i64 0, .int .i64 0, .slice none 0 0, .slice none 0 0, .bool false] 68)) (.slice (some ⟨w1.heap.size, 0, none⟩) 1 1) bP.updates from AM.below hU1 (by rw [hz1]; exact hbV))
 have H2 := zh (show AM (fun b => b = w1.heap.size + 1) (((w1.alloc (.cells #[.string ⟨#[98]⟩, .int .i64 0, .int .i64 3] 107)).alloc (.cells #[.string ⟨#[98]⟩, .int .i64 0, .int .i64 3] 107)).alloc (.cells #[.int .i64 1, .int .i64 0, .int .i64 7, .int .i64 4, .slice oa CU.objects.length oc, .slice ua CU.updates.length uc, .bool false, .int .i64 1, .int .i64 0, .int .i64 6, .int .i64 0, .slice none 0 0, .slice (some ⟨w1.heap.size, 0, none⟩) 1 1, .bool false, .int .i64 2, .int .i64 2, .int .i64 0, .int .i64 0, .slice none 0 0, .slice none 0 0, .bool false, .int .i64 1, .int .i64 0, .int .i64 6, .int .i64 0, .slice none 0 0, .slice (some ⟨w1.heap.size + 1, 0, none⟩) 1 1, .bool false, .int .i64 3, .int .i64 3, .int .i64 0, .int .i64 0, .slice none 0 0, .slice none 0 0, .bool false] 68)) (.slice (some ⟨w1.heap.size + 1, 0, none⟩) 1 1) bP.updates from AM.below hU2 (by rw [hz2]; exact hbW))
 have Hb := zh hb
 have HX := zh hX
 have hw1 := HB1.out.size
 clear hU1 hU2 hX hbU hbV hbW hb hz1 hz2
 go_ret
 generalize (((w1.alloc (.cells #[.string ⟨#[98]⟩, .int .i64 0, .int .i64 3] 107)).alloc (.cells #[.string ⟨#[98]⟩, .int .i64 0, .int .i64 3] 107)).alloc (.cells #[.int .i64 1, .int .i64 0, .int .i64 7, .int .i64 4, .slice oa CU.objects.length oc, .slice ua CU.updates.length uc, .bool false, .int .i64 1, .int .i64 0, .int .i64 6, .int .i64 0, .slice none 0 0, .slice (some ⟨w1.heap.size, 0, none⟩) 1 1, .bool false, .int .i64 2, .int .i64 2, .int .i64 0, .int .i64 0, .slice none 0 0, .slice none 0 0, .bool false, .int .i64 1, .int .i64 0, .int .i64 6, .int .i64 0, .slice none 0 0, .slice (some ⟨w1.heap.size + 1, 0, none⟩) 1 1, .bool false, .int .i64 3, .int .i64 3, .int .i64 0, .int .i64 0, .slice none 0 0, .slice none 0 0, .bool false] 68)) = x at *
 refine ⟨_, rfl, ⟨fun i => if i = 0 then ⟨.slice oa CU.objects.length oc, .slice ua CU.updates.length uc⟩ else if i = 1 then ⟨.slice none 0 0, .slice (some ⟨w1.heap.size, 0, none⟩) 1 1⟩ else if i = 3 then ⟨.slice none 0 0, .slice (some ⟨w1.heap.size + 1, 0, none⟩) 1 1⟩ else ⟨.slice none 0 0, .slice none 0 0⟩, ⟨_, 5, rfl, by decide, by decide, by decide, fun _ => ⟨_, 0, rfl, by omega, fun i hi j u hu => ?_⟩⟩, fun i hi => ?_⟩, HB1.out.trans (Hb.out.mono (by omega))⟩
 ·have hj : j < 7 := by
   rcases Nat.lt_or_ge j 7 with h | h
   ·exact h
   ·rw [List.getElem?_eq_none (by simpa [YD] using h)] at hu; cases hu
  have h1 : i = 0 ∨ i = 1 ∨ i = 2 ∨ i = 3 ∨ i = 4 := by have : i < 5 := hi; omega
  have h2 : j = 0 ∨ j = 1 ∨ j = 2 ∨ j = 3 ∨ j = 4 ∨ j = 5 ∨ j = 6 := by omega
  rcases h1 with rfl | rfl | rfl | rfl | rfl <;> rcases h2 with rfl | rfl | rfl | rfl | rfl | rfl | rfl <;> (cases hu; exact Aa HX.out rfl)
 ·have h1 : i = 0 ∨ i = 1 ∨ i = 2 ∨ i = 3 ∨ i = 4 := by have : i < 5 := hi; omega
  have hp0 : Ah (fun b => w.heap.size ≤ b) x (.slice none 0 0) [] := Ah.nil _ _ _ _ (by omega)
  have hp1 : AM (fun b => w.heap.size ≤ b) x (.slice none 0 0) [] := AM.nil _ _ _ _ (by omega)
  rcases h1 with rfl | rfl | rfl | rfl | rfl
  ·exact ⟨(Ho.out.below Hb.out).weaken fun b hb => hb, (Hu.out.below Hb.out).weaken fun b hb => hb, AK _ (by decide), AK _ (by decide), AK _ (by decide), AK _ (by decide)⟩
  ·exact ⟨hp0, H1.out.weaken fun b hb => by omega, AK _ (by decide), AK _ (by decide), AK _ (by decide), AK _ (by decide)⟩
  ·exact ⟨hp0, hp1, AK _ (by decide), AK _ (by decide), AK _ (by decide), AK _ (by decide)⟩
  ·exact ⟨hp0, H2.out.weaken fun b hb => by omega, AK _ (by decide), AK _ (by decide), AK _ (by decide), AK _ (by decide)⟩
  ·exact ⟨hp0, hp1, AK _ (by decide), AK _ (by decide), AK _ (by decide), AK _ (by decide)⟩
theorem Ty {w : World} {B n : Nat} {e : TypeId} {v : Value} {zs : List Value} (h : w.ownsRow B e 1 v n zs) (hn : 0 < n) :
  ∃ g cap, v = .slice (some ⟨g, 0, none⟩) n cap ∧ ∀ (x : World) (i : Nat) (u : Value), Below w.heap.size w x → zs[i]? = some u → x.cell? ⟨g, i, none⟩ = some u := by
 rcases h.2 with ⟨rfl, rfl⟩ | ⟨g, cap, cur, rfl, _, hg, _⟩
 ·omega
 ·refine ⟨g, cap, rfl, fun x i u hx hu => Ai hx ?_⟩
  have := h.cells (g := g) rfl i u hu
  by_cases h0 : i = 0
  ·subst h0; exact this
  ·simpa [Addr.add, h0] using this
theorem Jp (w : World) (ht : QG w) : Calls Tryz.prog 42 #[] w fun e w' => e = .returned (.bool true) ∧ Below w.heap.size w w' := by
 have HT := zh (fun x (hx : Below w.heap.size w x) => ht.below hx)
 clear ht
 go_enter Tryz.func42, Tryz.ntmps42
 go_wp2_with fail
 refine (So _).mono ?_
 rintro e w1 ⟨v, rfl, hv, hb1⟩
 have HB1 := zh hb1
 have HR := zh (Rp Bk v _ w1 hv (HT.out _ hb1))
 obtain ⟨va, vc, rfl⟩ := hv.vshape
 rw [show Yv Bk = 0 from rfl] at HR
 clear hv hb1
 go_wp2_with fail
 refine HR.out.mono ?_
 rintro e w2 ⟨cv, tv, dv, rfl, hrv, hb2⟩
 have hc0 : AJ (fun b => w1.heap.size ≤ b) w2 cv Gp := by
  have h1 := hrv.clu
  rw [show Yp Bk = Gp from (if_pos (by decide)).trans YL] at h1; exact h1
 have ht0 : w2.ownsRow w1.heap.size 4 1 tv 5 [.bool true, .bool false, .bool true, .bool true, .bool false] := by
  have h1 := hrv.told
  rw [show Sc Bk = 5 from rfl, YK] at h1; exact h1
 obtain ⟨le, hle, e5⟩ := YJ
 have hd0 : w2.ownsRow w1.heap.size 33 1 dv 5 (le.map (.int .i64) ++ [.int .i64 3]) := by
  have h1 := hrv.done
  rw [show Sc Bk = 5 from rfl, e5, List.map_append] at h1; exact h1
 have HB2 := zh (Aj HB1.out hb2)
 obtain ⟨gt, ct, rfl, hgt⟩ := Ty ht0 (by decide)
 obtain ⟨gd, cd, rfl, hgd⟩ := Ty hd0 (by decide)
 obtain ⟨ca, cc, rfl⟩ := hc0.vshape
 have Hc0 := zh (show AJ (fun b => w1.heap.size ≤ b) w2 (.slice ca Gp.length cc) Gp from hc0)
 have T0 := zh (fun x (hx : Below w2.heap.size w2 x) => hgt x 0 _ hx rfl)
 have T1 := zh (fun x (hx : Below w2.heap.size w2 x) => hgt x 1 _ hx rfl)
 have T2 := zh (fun x (hx : Below w2.heap.size w2 x) => hgt x 2 _ hx rfl)
 have T3 := zh (fun x (hx : Below w2.heap.size w2 x) => hgt x 3 _ hx rfl)
 have T4 := zh (fun x (hx : Below w2.heap.size w2 x) => hgt x 4 _ hx rfl)
 have D4 := zh (fun x (hx : Below w2.heap.size w2 x) => hgd x 4 (.int .i64 3) hx (by rw [List.getElem?_append_right (by simp [hle])]; simp [hle]))
 clear hrv hc0 ht0 hd0 hgt hgd hb2 HR
 obtain ⟨T, hT, hT1, HTb0⟩ := BW w2 #[.slice ca Gp.length cc] 66
 have hTb := hT.below
 have hTn := hT.next
 have c0 := fun x (hx : In T x) => HTb0 0 _ rfl x hx
 have HSh := zh (fun x (hx : In T x) => Ks Gp _ _ x (Hc0.out.below (hTb _ hx)) (HT.out _ (Aj HB2.out (hTb _ hx))))
 rw [ss.1, ss.2] at HSh
 have HDo := zh (fun x (hx : In T x) => Np Gp ⟨2, 0, 0, 0, CX⟩ _ (.slice none 0 0) (.slice none 0 0) _ (fun _ => True) x (Hc0.out.below (hTb _ hx)) ⟨Ah.nil _ _ _ _ (by omega), AM.nil _ _ _ _ (by omega), AK _ (by decide), AK _ (by decide), AK _ (by decide), AK _ (by decide)⟩ (HT.out _ (Aj HB2.out (hTb _ hx))))
 rw [sd.1, sd.2.1] at HDo
 simp only [Jh, show CX.force = false from rfl] at HDo
 try simp only [Nat.add_zero] at c0
 have cx := c0 _ hT1
 go_wp2_with fail
 refine (HSh.out _ hT1).mono ?_
 rintro e w3 ⟨rfl, hb3⟩
 have hT3 := hTn _ _ hT1 hb3
 clear hb3 cx
 have cx := c0 _ hT3
 go_wp2_with fail
 refine (HDo.out _ hT3).mono ?_
 rintro e w4 ⟨v4, rfl, hO4, hb4⟩
 have hT4 := hTn _ _ hT3 hb4
 obtain ⟨F4, hO, _⟩ := hO4
 have hv4 := hO.any (by rw [sd.2.2.1]; decide)
 clear hO hb4
 obtain ⟨a4, n4, cap4, fr4, HN4, rfl, _, _, _, h44, _⟩ := hv4.open
 obtain rfl : n4 = 3 := HN4.out.trans sd.2.2.1
 obtain ⟨b4, off4, rfl, _, k0, k1, k2, k3, k4, k5, k6⟩ := h44 (by omega)
 have G4 := zh (fun x (hx : Below w4.heap.size w4 x) => show x.cell? ⟨b4, off4 + 2, none⟩ = some (.int .i64 2) from by have h1 := k2 0 x (by decide) hx; rw [sd.2.2.2] at h1; simpa using h1)
 clear h44 k0 k1 k2 k3 k4 k5 k6 hv4
 have hT5 := hT.alloc _ (.cells #[.slice (some ⟨b4, off4, none⟩) 3 cap4] 66) hT4
 have hD5 := heap_alloc_new w4 (.cells #[.slice (some ⟨b4, off4, none⟩) 3 cap4] 66)
 have hbA : Below w4.heap.size w4 (w4.alloc (.cells #[.slice (some ⟨b4, off4, none⟩) 3 cap4] 66)) := bal
 have y0 := Aa (j := 0) hD5 rfl
 have y1 := G4.out _ hbA
 have t0 := T0.out _ (hTb _ hT5)
 have t1 := T1.out _ (hTb _ hT5)
 have t2 := T2.out _ (hTb _ hT5)
 have t3 := T3.out _ (hTb _ hT5)
 have t4 := T4.out _ (hTb _ hT5)
 have d4 := D4.out _ (hTb _ hT5)
 have HE := zh (Aj HB2.out (hTb _ hT5))
 go_wp2_with fail
 go_ret
 exact ⟨rfl, HE.out⟩
end Go.Proofs.YtjdgpgfiomnjkaaGreatDoor
