/- AddA: Join, Each, WithP, With, Add, Find. -/
import Derived.Test.YtjdgpgfiomnjkaaGreatDoorT7
set_option linter.all false
set_option maxHeartbeats 4000000
set_option maxRecDepth 100000
namespace Go.Proofs.YtjdgpgfiomnjkaaGreatDoor
open Go.RowKit
def Gr (l : List Obj) (o : Obj) : Int := if CK l o.id = true ∧ By (obj l (lo l o.id)) o = false then 6 else 0
def Fk (l : List Obj) (o : Obj) : List Obj := if CK l o.id = true then l else JQ l (lo l o.id) o
def GM (B J : Nat) (w : World) (l : List Obj) : Prop :=
 ∃ v S, Da S B w v l ∧ (∀ b, S b → b ≠ J ∧ B ≤ b) ∧ v.ownBlock ≠ some J ∧ w.heap[J]? = some (.cells #[v] 178 (0, 0))
theorem GM.below {B J : Nat} {w w' : World} {l : List Obj} (h : GM B J w l) (hb : Below w.heap.size w w') : GM B J w' l := by
 obtain ⟨v, S, h1, h2, h3, h4⟩ := h
 exact ⟨v, S, h1.below hb, h2, h3, (hb.block _ (lt_of_block h4)).trans h4⟩
theorem KD {B J : Nat} {w x0 xo w9 : World} {v v' : Value} {m : List Obj} {S : Nat → Prop} (hB : B ≤ J) (hJw : J < w.heap.size) (hSJ : ∀ b, S b → b ≠ J ∧ B ≤ b) (hvJ : v.ownBlock ≠ some J) (hcJ : w.heap[J]? = some (.cells #[v] 178 (0, 0)))
  (hb0 : Below w.heap.size w x0) (hb : Below w.heap.size w xo) (hvB : ∀ g, v.ownBlock = some g → B ≤ g) (hG : Da (fun b => S b ∨ (x0.heap.size ≤ b ∧ b < xo.heap.size)) B w9 v' m) (hu : Av (fun b => v.ownBlock = some b) xo w9) (hat : v'.ownBlock = v.ownBlock ∨ ∃ k, v'.ownBlock = some k ∧ xo.heap.size ≤ k) :
  GM B J (w9.setCell ⟨J, 0, none⟩ v') m ∧ Below B w (w9.setCell ⟨J, 0, none⟩ v') := by
 have h0 := hb0.size
 have h1 := hb.size
 have hJ9 : w9.heap[J]? = some (.cells #[v] 178 (0, 0)) := hu.blk ((hb.block _ hJw).trans hcJ) hvJ
 have hu2 : Av (fun b => b = J) w9 (w9.setCell ⟨J, 0, none⟩ v') := (Av.refl (fun b => b = J) w9).setCell (p := ⟨J, 0, none⟩) (fun _ => rfl) _
 have hv' : v'.ownBlock ≠ some J := by
  rcases hat with h | ⟨k, h, hk⟩
  ·rw [h]; exact hvJ
  ·rw [h]; intro e; cases e; omega
 refine ⟨⟨v', _, hG.upd hu2 (fun b hb' e => ?_) (fun g hg e => hv' (by rw [hg, e])), fun b hb' => ?_, hv', Ad (j := 0) hJ9 v'⟩, ?_⟩
 ·rcases hb' with h | h
  ·exact (hSJ b h).1 e
  ·omega
 ·rcases hb' with h | h
  ·exact hSJ b h
  ·exact ⟨by omega, by omega⟩
 ·exact (hb.mono (by omega)).trans ((hu.below (by omega) hvB).trans (hu2.below (B := B) (by have := hu.size; omega) (fun b e => by omega)))
theorem VE {B J : Nat} {l : List Obj} {w : World} (hJ : GM B J w l) (hr : AC l) (o : Obj) (lv : Value) (S2 : Nat → Prop) (ho : Br S2 w o lv) (hl : l.length ≤ 900) (hB : B ≤ J) :
  Calls Tryz.prog 143 #[.pointer (some ⟨J, 0, none⟩), .agg #[.int .i64 o.id, .int .i64 o.kind, lv, .string o.text]] w
   fun e w' => e = .returned (.int .i64 (Gr l o)) ∧ GM B J w' (Fk l o) ∧ Below B w w' := by
 have hJ' := hJ
 obtain ⟨v, S, hG, hSJ, hvJ, hcJ⟩ := hJ
 obtain ⟨va, vc, rfl⟩ := hG.gath.shape
 obtain ⟨⟨lp, lc⟩, rfl⟩ := ho.1.shape
 have hJw := lt_of_block hcJ
 have hst := hG.gath.store (by omega)
 obtain ⟨Q, hQ, hQ1, y0, y1, y2, y3⟩ := Es w (.int .i64 o.id) (.int .i64 o.kind) (.slice lp o.links.length lc) (.string o.text) 46
 have hQb := hQ.below
 have hQn := hQ.next
 have hQg := BB hQ
 have cJ := fun x (hx : In Q x) => Aa (w := x) (j := 0) ((hQb x hx).block _ hJw |>.trans hcJ) rfl
 have Hat := zh (fun x (hx : In Q x) => KU l _ _ o.id x (hst.below (hQb _ hx)) hr)
 have hlo := Pb l o.id
 cases hat : CK l o.id
 ·have HjL := zh (show Fk l o = JQ l (lo l o.id) o by unfold Fk; rw [if_neg (by simp [hat])])
  have HjE := zh (show Gr l o = 0 by unfold Gr; simp [hat])
  rw [HjL.out, HjE.out]
  rw [hat] at Hat
  generalize lo l o.id = k at *
  have Ho := zh ho
  have HG := zh hG
  have HSJ := zh hSJ
  have HcJ := zh hcJ
  clear hst hJ' hr ho hG hSJ hcJ
  go_enter Tryz.func143, Tryz.ntmps143
  go_wp2_with fail
  refine wp_region_quiet_below (by kernel_rfl) (by kernel_rfl) ?_
  repeat (quiet_step (exact Calls.regrown_of (Hat.out _ (hQg _ _ _ hQ1))))
  refine wpQuiet_nil ?_
  intro _ hw'
  obtain ⟨⟨dq, osq⟩, hw''⟩ := hw'
  subst hw''
  have hQ2 := hQg _ dq osq hQ1
  generalize Go.Sort.grow (redrawn _ dq) osq = w5 at *
  go_wp2_with fail
  have hQd := hQ.drew _ hQ2
  refine Dm (by kernel_rfl) rfl ?_
  generalize w5.drew = x0 at *
  refine Au 0 (.pointer (some ⟨J, 0, none⟩)) rfl (by kernel_rfl) (by kernel_rfl) (by kernel_rfl) (fun _ _ _ h => h) (by rfl) (fun w => ?_) ?_
  ·go_simp
  simp only [tkS]
  refine Au 1 (.pointer (some ⟨J, 0, none⟩)) rfl (by kernel_rfl) (by kernel_rfl) (by kernel_rfl) (fun _ _ _ h => h) (by rfl) (fun w => ?_) ?_
  ·go_simp
  simp only [tkS]
  refine Au 2 (.pointer (some ⟨J, 0, none⟩)) rfl (by kernel_rfl) (by kernel_rfl) (by kernel_rfl) (fun _ _ _ h => h) (by rfl) (fun w => ?_) ?_
  ·go_simp
  simp only [tkS]
  refine Au 3 (.pointer (some ⟨J, 0, none⟩)) rfl (by kernel_rfl) (by kernel_rfl) (by kernel_rfl) (fun _ _ _ h => h) (by rfl) (fun w => ?_) ?_
  ·go_simp
  simp only [tkS]
  refine Au 5 (.int .i64 (k : Int)) rfl (by kernel_rfl) (by kernel_rfl) (by kernel_rfl) (fun _ _ _ h => h) (by rfl) (fun w => ?_) ?_
  ·go_simp
  simp only [tkS]
  have HQn := zh hQn
  have HQa := zh hQ.alloc
  have hQ0 := hQd
  clear hQd
  have z0 := y0 _ hQ0
  have z1 := y1 _ hQ0
  have z2 := y2 _ hQ0
  have z3 := y3 _ hQ0
  have zJ := cJ _ hQ0
  have hown := Pz o _ S2 x0 (Ho.out.below (hQb _ hQ0))
  refine EQ 4 6 (by kernel_rfl) (Eh rfl (by rfl) (fun K hK => ?_)) (Eh rfl (by rfl) (fun K hK => ?_))
  ·go_wp2_with fail
   refine Am 6 (by kernel_rfl) rfl (by rfl) (fun K hK => ?_)
   go_wp2_with fail
   refine Am 7 (by kernel_rfl) rfl (by rfl) (fun K hK => ?_)
   go_wp2_with fail
   refine hown.mono ?_
   rintro e xo ⟨lo, rfl, hoo, hbo⟩
   obtain ⟨⟨lop, loc⟩, rfl⟩ := hoo.1.shape
   have hQo := HQn.out _ _ hQ0 hbo
   have zJo := cJ _ hQo
   have zJo2 := cJ _ (HQa.out _ (.cells #[.int .i64 o.id, .int .i64 o.kind, .slice lop o.links.length loc, .string o.text] 46) hQo)
   go_wp2_with fail
   refine Am 8 (by kernel_rfl) rfl (by rfl) (fun K hK => ?_)
   go_wp2_with fail
   have hin := FT (HG.out.below (hQb _ hQo)) hoo.lt (fun b hb => ⟨hb.2, fun e => by have h1 := (HG.out.gath.block e).2; have h2 := (hQb _ hQ0).size; omega⟩) (show l.length ≤ 1000 by omega) (show B ≤ xo.heap.size by have := (hQb _ hQo).size; omega) hlo rfl
   refine Am 9 (by kernel_rfl) rfl (by rfl) (fun K hK => ?_)
   go_wp2_with fail
   refine hin.mono ?_
   rintro e w9 ⟨v', rfl, hG9, hu9, hat9⟩
   have Hend := zh (KD hB hJw HSJ.out hvJ HcJ.out (hQb _ hQ0) (hQb _ hQo) (fun g hg => (HG.out.gath.block hg).1) hG9 hu9 hat9)
   have hJ9 : w9.heap[J]? = some (.cells #[_] 178 (0, 0)) := hu9.blk (((hQb _ hQo).block _ hJw).trans HcJ.out) hvJ
   have cJ9 := Aa (j := 0) hJ9 rfl
   have fJ9 := Ab (j := 0) hJ9
   obtain ⟨⟨va9, vc9⟩, hv9⟩ : ∃ p : Option Addr × Nat, v' = .slice p.1 (JQ l k o).length p.2 := by
    obtain ⟨a, c, h⟩ := hG9.gath.shape
    exact ⟨(a, c), h⟩
   subst hv9
   clear hin hG9 hu9 hat9 hJ9
   go_wp2_with fail
   refine Am 10 (by kernel_rfl) rfl (by rfl) (fun K hK => ?_)
   go_wp2_with fail
   refine Am 11 (by kernel_rfl) rfl (by rfl) (fun K hK => ?_)
   go_wp2_with fail
   refine Am 12 (by kernel_rfl) rfl (by rfl) (fun K hK => ?_)
   go_wp2_with fail
   refine BF (by kernel_rfl) ?_
   go_wp2_with fail
   go_ret
   exact ⟨rfl, Hend.out⟩
  ·go_wp2_with fail
   refine EQ 4 7 (by kernel_rfl) (Eh rfl (by rfl) (fun K hK => ?_)) (Eh rfl (by rfl) (fun K hK => ?_))
   ·go_wp2_with fail
    refine Am 7 (by kernel_rfl) rfl (by rfl) (fun K hK => ?_)
    go_wp2_with fail
    refine hown.mono ?_
    rintro e xo ⟨lo, rfl, hoo, hbo⟩
    obtain ⟨⟨lop, loc⟩, rfl⟩ := hoo.1.shape
    have hQo := HQn.out _ _ hQ0 hbo
    have zJo := cJ _ hQo
    have zJo2 := cJ _ (HQa.out _ (.cells #[.int .i64 o.id, .int .i64 o.kind, .slice lop o.links.length loc, .string o.text] 46) hQo)
    go_wp2_with fail
    refine Am 8 (by kernel_rfl) rfl (by rfl) (fun K hK => ?_)
    go_wp2_with fail
    have hin := FT (HG.out.below (hQb _ hQo)) hoo.lt (fun b hb => ⟨hb.2, fun e => by have h1 := (HG.out.gath.block e).2; have h2 := (hQb _ hQ0).size; omega⟩) (show l.length ≤ 1000 by omega) (show B ≤ xo.heap.size by have := (hQb _ hQo).size; omega) hlo rfl
    refine Am 9 (by kernel_rfl) rfl (by rfl) (fun K hK => ?_)
    go_wp2_with fail
    refine hin.mono ?_
    rintro e w9 ⟨v', rfl, hG9, hu9, hat9⟩
    have Hend := zh (KD hB hJw HSJ.out hvJ HcJ.out (hQb _ hQ0) (hQb _ hQo) (fun g hg => (HG.out.gath.block hg).1) hG9 hu9 hat9)
    have hJ9 : w9.heap[J]? = some (.cells #[_] 178 (0, 0)) := hu9.blk (((hQb _ hQo).block _ hJw).trans HcJ.out) hvJ
    have cJ9 := Aa (j := 0) hJ9 rfl
    have fJ9 := Ab (j := 0) hJ9
    obtain ⟨⟨va9, vc9⟩, hv9⟩ : ∃ p : Option Addr × Nat, v' = .slice p.1 (JQ l k o).length p.2 := by
     obtain ⟨a, c, h⟩ := hG9.gath.shape
     exact ⟨(a, c), h⟩
    subst hv9
    clear hin hG9 hu9 hat9 hJ9
    go_wp2_with fail
    refine Am 10 (by kernel_rfl) rfl (by rfl) (fun K hK => ?_)
    go_wp2_with fail
    refine Am 11 (by kernel_rfl) rfl (by rfl) (fun K hK => ?_)
    go_wp2_with fail
    refine Am 12 (by kernel_rfl) rfl (by rfl) (fun K hK => ?_)
    go_wp2_with fail
    refine BF (by kernel_rfl) ?_
    go_wp2_with fail
    go_ret
    exact ⟨rfl, Hend.out⟩
   ·go_wp2_with fail
    refine hown.mono ?_
    rintro e xo ⟨lo, rfl, hoo, hbo⟩
    obtain ⟨⟨lop, loc⟩, rfl⟩ := hoo.1.shape
    have hQo := HQn.out _ _ hQ0 hbo
    have zJo := cJ _ hQo
    have zJo2 := cJ _ (HQa.out _ (.cells #[.int .i64 o.id, .int .i64 o.kind, .slice lop o.links.length loc, .string o.text] 46) hQo)
    go_wp2_with fail
    refine EQ 4 8 (by kernel_rfl) (Eh rfl (by rfl) (fun K hK => ?_)) (Eh rfl (by rfl) (fun K hK => ?_))
    ·go_wp2_with fail
     refine Am 8 (by kernel_rfl) rfl (by rfl) (fun K hK => ?_)
     go_wp2_with fail
     have hin := FT (HG.out.below (hQb _ hQo)) hoo.lt (fun b hb => ⟨hb.2, fun e => by have h1 := (HG.out.gath.block e).2; have h2 := (hQb _ hQ0).size; omega⟩) (show l.length ≤ 1000 by omega) (show B ≤ xo.heap.size by have := (hQb _ hQo).size; omega) hlo rfl
     refine Am 9 (by kernel_rfl) rfl (by rfl) (fun K hK => ?_)
     go_wp2_with fail
     refine hin.mono ?_
     rintro e w9 ⟨v', rfl, hG9, hu9, hat9⟩
     have Hend := zh (KD hB hJw HSJ.out hvJ HcJ.out (hQb _ hQ0) (hQb _ hQo) (fun g hg => (HG.out.gath.block hg).1) hG9 hu9 hat9)
     have hJ9 : w9.heap[J]? = some (.cells #[_] 178 (0, 0)) := hu9.blk (((hQb _ hQo).block _ hJw).trans HcJ.out) hvJ
     have cJ9 := Aa (j := 0) hJ9 rfl
     have fJ9 := Ab (j := 0) hJ9
     obtain ⟨⟨va9, vc9⟩, hv9⟩ : ∃ p : Option Addr × Nat, v' = .slice p.1 (JQ l k o).length p.2 := by
      obtain ⟨a, c, h⟩ := hG9.gath.shape
      exact ⟨(a, c), h⟩
     subst hv9
     clear hin hG9 hu9 hat9 hJ9
     go_wp2_with fail
     refine Am 10 (by kernel_rfl) rfl (by rfl) (fun K hK => ?_)
     go_wp2_with fail
     refine Am 11 (by kernel_rfl) rfl (by rfl) (fun K hK => ?_)
     go_wp2_with fail
     refine Am 12 (by kernel_rfl) rfl (by rfl) (fun K hK => ?_)
     go_wp2_with fail
     refine BF (by kernel_rfl) ?_
     go_wp2_with fail
     go_ret
     exact ⟨rfl, Hend.out⟩
    ·go_wp2_with fail
     refine Am 4 (by kernel_rfl) rfl (by rfl) (fun K hK => ?_)
     go_wp2_with fail
     have hin := FT (HG.out.below (hQb _ hQo)) hoo.lt (fun b hb => ⟨hb.2, fun e => by have h1 := (HG.out.gath.block e).2; have h2 := (hQb _ hQ0).size; omega⟩) (show l.length ≤ 1000 by omega) (show B ≤ xo.heap.size by have := (hQb _ hQo).size; omega) hlo rfl
     refine Am 9 (by kernel_rfl) rfl (by rfl) (fun K hK => ?_)
     go_wp2_with fail
     refine hin.mono ?_
     rintro e w9 ⟨v', rfl, hG9, hu9, hat9⟩
     have Hend := zh (KD hB hJw HSJ.out hvJ HcJ.out (hQb _ hQ0) (hQb _ hQo) (fun g hg => (HG.out.gath.block hg).1) hG9 hu9 hat9)
     have hJ9 : w9.heap[J]? = some (.cells #[_] 178 (0, 0)) := hu9.blk (((hQb _ hQo).block _ hJw).trans HcJ.out) hvJ
     have cJ9 := Aa (j := 0) hJ9 rfl
     have fJ9 := Ab (j := 0) hJ9
     obtain ⟨⟨va9, vc9⟩, hv9⟩ : ∃ p : Option Addr × Nat, v' = .slice p.1 (JQ l k o).length p.2 := by
      obtain ⟨a, c, h⟩ := hG9.gath.shape
      exact ⟨(a, c), h⟩
     subst hv9
     clear hin hG9 hu9 hat9 hJ9
     go_wp2_with fail
     refine Am 10 (by kernel_rfl) rfl (by rfl) (fun K hK => ?_)
     go_wp2_with fail
     refine Am 11 (by kernel_rfl) rfl (by rfl) (fun K hK => ?_)
     go_wp2_with fail
     refine Am 12 (by kernel_rfl) rfl (by rfl) (fun K hK => ?_)
     go_wp2_with fail
     refine BF (by kernel_rfl) ?_
     go_wp2_with fail
     go_ret
     exact ⟨rfl, Hend.out⟩
 ·have HjL := zh (show Fk l o = l by unfold Fk; rw [if_pos hat])
  have hk : lo l o.id < l.length := by unfold CK at hat; simp at hat; exact hat.1
  have HjE := zh (show Gr l o = if By (obj l (lo l o.id)) o = false then 6 else 0 by unfold Gr; simp [hat])
  rw [HjL.out]
  obtain ⟨a5, n5, c5, la5, ln5, lc5, HN5, e5, _, _, _, h45, h55⟩ := hst.open
  cases e5
  obtain ⟨b, off, rfl, _, k0, k1, k2, k3⟩ := h45 (by omega)
  have Hs := zh (fun x (hx : In Q x) => Qy (obj l (lo l o.id)) o _ _ _ _ x ((h55 _ hk).below (hQb _ hx)) (ho.below (hQb _ hx)))
  rw [hat] at Hat
  generalize lo l o.id = k at *
  have x0 := fun x (hx : In Q x) => k0 k x hk (hQb x hx)
  have x1 := fun x (hx : In Q x) => k1 k x hk (hQb x hx)
  have x2 := fun x (hx : In Q x) => k2 k x hk (hQb x hx)
  have x3 := fun x (hx : In Q x) => k3 k x hk (hQb x hx)
  have HJ := zh (fun x (hx : In Q x) => And.intro (hJ'.below (hQb x hx)) ((hQb x hx).mono (show B ≤ w.heap.size by omega)))
  have hi1 : (0 : Int) ≤ (k : Int) := by omega
  have hi2 : (k : Int) < (l.length : Int) := by omega
  clear k0 k1 k2 k3 h45 h55 hG hSJ hvJ hcJ hst hJ' hr HN5 ho
  rw [HjE.out]
  have Hend := zh (fun x (hx : In Q x) => HJ.out x hx)
  cases hs : By (obj l k) o
  case' false => rw [hs] at Hs
  case' true => rw [hs] at Hs
  all_goals
   go_enter Tryz.func143, Tryz.ntmps143
   go_wp2_with fail
   refine wp_region_quiet_below (by kernel_rfl) (by kernel_rfl) ?_
   repeat (quiet_step (exact Calls.regrown_of (Hat.out _ (hQg _ _ _ hQ1))))
   refine wpQuiet_nil ?_
   intro _ hw'
   obtain ⟨⟨dq, osq⟩, hw''⟩ := hw'
   subst hw''
   have hQ2 := hQg _ dq osq hQ1
   generalize Go.Sort.grow (redrawn _ dq) osq = w5 at *
   go_wp2_with fail
   refine wp_region_quiet_below (by kernel_rfl) (by kernel_rfl) ?_
   repeat (quiet_step (exact Calls.regrown_of (Hs.out _ (hQg _ _ _ hQ2))))
   refine wpQuiet_nil ?_
   intro _ hw'
   obtain ⟨⟨dq, osq⟩, hw''⟩ := hw'
   subst hw''
   have hQ3 := hQg _ dq osq hQ2
   generalize Go.Sort.grow (redrawn _ dq) osq = w6 at *
   go_wp2_with fail
   go_ret
   exact ⟨rfl, (Hend.out _ hQ3).1, (Hend.out _ hQ3).2⟩
structure XW (g : Nat) (f : Array Value) (l : List Obj) (w0 : World) (I : Nat → World → Prop) (err : Nat → Int) : Prop where
 enter : ∀ args w, (callFunc g args).run Tryz.prog w = .ok (.enter g args) w
 below : ∀ k x, I k x → Below w0.heap.size w0 x
 next : ∀ k x y, I k x → Below x.heap.size x y → I k y
 step : ∀ k x (lv : Value) (S : Nat → Prop), k < l.length → Ap err k = 0 → I k x → Br S x (obj l k) lv →
  Calls Tryz.prog g (f ++ #[.agg #[.int .i64 (obj l k).id, .int .i64 (obj l k).kind, lv, .string (obj l k).text]]) x fun e w' => e = .returned (.int .i64 (err k)) ∧ Below w0.heap.size w0 w' ∧ (err k = 0 → I (k + 1) w')
theorem NC {g : Nat} {f : Array Value} {l : List Obj} {w0 w : World} {I : Nat → World → Prop} {err : Nat → Int} (hd : XW g f l w0 I err) (lv : Value) (S : Nat → Prop) (h : Ah S w0 lv l) (h0 : I 0 w) :
  Calls Tryz.prog 81 #[lv, .func (.func g) f #[]] w fun e w' => e = .returned (.int .i64 (Ap err l.length)) ∧ Below w0.heap.size w0 w' ∧ (Ap err l.length = 0 → I l.length w') := by
 have h' := h
 obtain ⟨a, n, cap, la, ln, lc, HN, rfl, h1, h2, h3, h4, h5⟩ := h.open
 have eg := hd.enter
 have Hd := zh hd
 have Hn := zh HN.out.1
 rw [← Hn.out]
 clear h hd
 go_enter Tryz.func81, Tryz.ntmps81
 go_wp2_with fail
 go_loopw [10] (fun i wr => ∃ k : Nat, k ≤ n ∧ i = .int .i64 k ∧ Hid (Ap err k = 0) ∧ Hid (I k wr)) (fun i _ => n - (intOf i).toNat)
 case atStart => exact ⟨0, by omega, rfl, rfl, h0⟩
 obtain ⟨k, hk, rfl, Hs, HI⟩ := hrel
 clear h0
 have hRw := Hd.out.below _ _ HI.out
 by_cases hlt : k < n
 ·obtain ⟨b, off, rfl, hb, k0, k1, k2, k3⟩ := h4 (by omega)
  have x0 := k0 k wr hlt hRw
  have x1 := k1 k wr hlt hRw
  have x2 := k2 k wr hlt hRw
  have x3 := k3 k wr hlt hRw
  obtain ⟨Q, hQ, hQ1, y0, y1, y2, y3⟩ := Es wr (.int .i64 (obj l k).id) (.int .i64 (obj l k).kind) (.slice (la k) (ln k) (lc k)) (.string (obj l k).text) 46
  have Hc := zh (Hd.out.step k _ _ S (by rw [← Hn.out]; exact hlt) Hs.out (Hd.out.next _ _ _ HI.out (hQ.below _ hQ1)) ((h5 k hlt).below (Aj hRw (hQ.below _ hQ1))))
  have z0 := y0 _ hQ1
  have z1 := y1 _ hQ1
  have z2 := y2 _ hQ1
  have z3 := y3 _ hQ1
  have hi1 : (0 : Int) ≤ (k : Int) := by omega
  have hi2 : (k : Int) < (n : Int) := by omega
  clear k0 k1 k2 k3 h4 h5 y0 y1 y2 y3
  by_cases he : err k = 0
  ·have hq : (err k != 0) = false := by simpa using he
   have Hs2 := zh (show Ap err (k + 1) = 0 from AB Hs.out he)
   have He := zh he
   clear he
   go_wp2_with fail
   refine Hc.out.mono ?_
   rintro e w' ⟨rfl, hb2, hI2⟩
   have HI2 := zh (hI2 He.out)
   clear hI2 hb2
   go_wp2_with fail
   go_roundw
   case rel => exact ⟨k + 1, by omega, by go_num, Hs2, HI2⟩
   case measure => simp [intOf]; omega
  ·have hq : (err k != 0) = true := by simpa using he
   have Hs2 := zh (show Ap err n = err k from BZ Hs.out he hlt)
   have He := zh he
   clear he
   go_wp2_with fail
   refine Hc.out.mono ?_
   rintro e w' ⟨rfl, hb2, hI2⟩
   clear hI2
   go_wp2_with fail
   go_ret
   exact ⟨Ae Hs2.out.symm, hb2, fun h => absurd (Hs2.out.symm.trans h) He.out⟩
 ·obtain rfl : k = n := by omega
  go_wp2_with fail
  go_ret
  exact ⟨Ae Hs.out.symm, hRw, fun _ => HI.out⟩
end Go.Proofs.YtjdgpgfiomnjkaaGreatDoor
namespace Go.Proofs.YtjdgpgfiomnjkaaGreatDoor
theorem RB {l : List Obj} {i : Nat} {o : Obj} (h : AC l) (hi : i ≤ l.length) (h1 : ∀ j, j < i → (obj l j).id < o.id) (h2 : ∀ j, i ≤ j → j < l.length → o.id < (obj l j).id) : AC (JQ l i o) := by
 intro a b hab hb
 rw [CB hi] at hb
 rcases Nat.lt_trichotomy a i with ha | rfl | ha
 ·rw [Ic hi ha]
  rcases Nat.lt_trichotomy b i with hb' | rfl | hb'
  ·rw [Ic hi hb']; exact h a b hab (by omega)
  ·rw [IS hi]; exact h1 a ha
  ·obtain ⟨c, rfl⟩ : ∃ c, b = c + 1 := ⟨b - 1, by omega⟩
   rw [GR hi (by omega)]; exact h a c (by omega) (by omega)
 ·obtain ⟨c, rfl⟩ : ∃ c, b = c + 1 := ⟨b - 1, by omega⟩
  rw [IS hi, GR hi (by omega)]; exact h2 c (by omega) (by omega)
 ·obtain ⟨c, rfl⟩ : ∃ c, b = c + 1 := ⟨b - 1, by omega⟩
  obtain ⟨d, rfl⟩ : ∃ d, a = d + 1 := ⟨a - 1, by omega⟩
  rw [GR hi (by omega), GR hi (by omega)]; exact h d c (by omega) (by omega)
theorem AC.lo_gt {l : List Obj} (h : AC l) {id : Int} (hn : CK l id = false) : ∀ j, lo l id ≤ j → j < l.length → id < (obj l j).id := by
 intro j hj hjl
 have h1 := h.lo_ge j hj hjl
 rcases Nat.lt_or_ge (lo l id) j with h2 | h2
 ·have a := h.lo_ge (id := id) (lo l id) (Nat.le_refl _) (by omega)
  have b := h (lo l id) j h2 hjl
  omega
 ·have e : j = lo l id := by omega
  subst e
  have : ¬ (obj l (lo l id)).id = id := by
   unfold CK at hn
   intro e
   simp [hjl, e] at hn
  omega
theorem AC.join {l : List Obj} (h : AC l) (o : Obj) : AC (Fk l o) := by
 unfold Fk
 split
 ·exact h
 ·rename_i hn
  exact RB h (Pb _ _) (fun j hj => h.lo_lt j hj) (h.lo_gt (by simpa using hn))
theorem PH (l : List Obj) (o : Obj) : (Fk l o).length ≤ l.length + 1 := by
 unfold Fk
 split
 ·omega
 ·rw [CB (Pb _ _)]; omega
def Ar (l more : List Obj) : Nat → List Obj
 | 0 => l
 | k + 1 => Fk (Ar l more k) (obj more k)
def BO (l more : List Obj) (k : Nat) : Int := Gr (Ar l more k) (obj more k)
theorem FX {l : List Obj} (h : AC l) (more : List Obj) (k : Nat) : AC (Ar l more k) := by
 induction k with
 | zero => exact h
 | succ k ih => exact ih.join _
theorem EO (l more : List Obj) (k : Nat) : (Ar l more k).length ≤ l.length + k := by
 induction k with
 | zero => exact Nat.le_refl _
 | succ k ih => have := PH (Ar l more k) (obj more k); show (Fk _ _).length ≤ _; omega
def BY (l more : List Obj) : Int := if Ap (BO l more) more.length = 0 then Ag (Ar l more more.length) else Ap (BO l more) more.length
def Ch (l more : List Obj) : List Obj := if BY l more = 0 then Ar l more more.length else []
def Dx (l more : List Obj) : Int :=
 if Ag l ≠ 0 then Ag l else if 12 < more.length then 2 else if Ap (fun k => Ax (obj more k)) more.length ≠ 0 then Ap (fun k => Ax (obj more k)) more.length else BY l more
def Cz (l more : List Obj) : List Obj := if Dx l more = 0 then Ar l more more.length else []
end Go.Proofs.YtjdgpgfiomnjkaaGreatDoor
namespace Go.Proofs.YtjdgpgfiomnjkaaGreatDoor
open Go.RowKit
theorem SM (l more : List Obj) (hr : AC l) (hl : l.length ≤ 500) (hm : more.length ≤ 400) (w0 : World) (J : Nat) (hJ : w0.heap.size ≤ J) :
  XW 143 #[.pointer (some ⟨J, 0, none⟩)] more w0 (fun k x => GM w0.heap.size J x (Ar l more k) ∧ Below w0.heap.size w0 x) (BO l more) where
 enter := fun _ _ => rfl
 below := fun k x h => h.2
 next := fun k x y h hb => ⟨h.1.below hb, Aj h.2 hb⟩
 step := fun k x lv S hk hs hI ho => by
  have hj := VE hI.1 (FX hr more k) (obj more k) lv S ho (by have := EO l more k; omega) hJ
  refine hj.mono ?_
  rintro e w' ⟨rfl, h1, h2⟩
  have hb : Below w0.heap.size w0 w' := hI.2.trans h2
  exact ⟨rfl, hb, fun _ => ⟨h1, hb⟩⟩
theorem RX {B : Nat} {w1 : World} {v : Value} {l : List Obj} (h : EW B w1 v l) : GM B w1.heap.size (w1.alloc (.cells #[v] 178)) l := by
 obtain ⟨S, hS, hge⟩ := h
 obtain ⟨lvs, h1, h2, h3⟩ := id hS
 exact ⟨v, S, hS.below bal, fun b hb => ⟨fun e => by have := (h1 b hb).1; omega, hge b hb⟩, fun e => by have := (h2.lt _ e).2; omega, heap_alloc_new w1 _⟩
def IY (w w' : World) (e : Ending) (l : List Obj) (c : Int) : Prop := ∃ v, e = .returned (.tuple #[v, .int .i64 c]) ∧ Ah (fun b => w.heap.size ≤ b) w' v l ∧ Below w.heap.size w w'
theorem IY.e {w w' : World} {e : Ending} {l : List Obj} {c : Int} (h : IY w w' e l c) : KR w w' e l c := let ⟨v, h1, h2, h3⟩ := h; ⟨v, h1, h2.weaken fun _ _ => trivial, h3⟩
theorem Pa (l more : List Obj) (lv mv : Value) (S S' : Nat → Prop) (w : World) (h : Ah S w lv l) (hm : Ah S' w mv more) (hr : AC l) (hl : l.length ≤ 500) (hml : more.length ≤ 400) :
  Calls Tryz.prog 82 #[lv, mv] w fun e w' => IY w w' e (Ch l more) (BY l more) := by
 have hmf : ∀ (fn : Fn) (first cap : Array Value) (w : World), (Instr.makeFunc fn first cap).run Tryz.prog w = .ok (.func fn first cap) w := fun _ _ _ _ => rfl
 have Hown := zh (Ia l lv S w h)
 have HE := zh (fun J (hJ : w.heap.size ≤ J) x (hx : GM w.heap.size J x l ∧ Below w.heap.size w x) => NC (SM l more hr hl hml w J hJ) mv S' hm hx)
 have HC := zh (fun v x (hx : Ah (fun b => w.heap.size ≤ b) x v (Ar l more more.length)) => EC (Ar l more more.length) v _ x hx)
 have HwE := zh (show BY l more = if Ap (BO l more) more.length = 0 then Ag (Ar l more more.length) else Ap (BO l more) more.length from rfl)
 have HwL := zh (show Ch l more = if BY l more = 0 then Ar l more more.length else [] from rfl)
 have hjl := EO l more more.length
 have HJl := zh (show (Ar l more more.length).length * 56 ≤ 140737488351232 by omega)
 obtain ⟨la, lc, rfl⟩ := h.vshape
 obtain ⟨ma, mc, rfl⟩ := hm.vshape
 clear h hm hjl
 generalize Ar l more more.length = jl at *
 generalize Ap (BO l more) more.length = se at *
 have h3 : (se = 0 ∧ Ag jl = 0) ∨ (se = 0 ∧ Ag jl ≠ 0) ∨ se ≠ 0 := by
  by_cases a : se = 0
  ·by_cases b : Ag jl = 0
   ·exact .inl ⟨a, b⟩
   ·exact .inr (.inl ⟨a, b⟩)
  ·exact .inr (.inr a)
 rcases h3 with ⟨hs, hc⟩ | ⟨hs, hc⟩ | hs
 case' inl =>
  have hq : (se == 0) = true := by simpa using hs
  have hq2 : (Ag jl != 0) = false := by simpa using hc
  rw [if_pos hs] at HwE
  have Hs := zh hs
  rw [HwL.out, HwE.out, if_pos hc, hc]
  clear hs hc
 case' inr.inl =>
  have hq : (se == 0) = true := by simpa using hs
  have hq2 : (Ag jl != 0) = true := by simpa using hc
  rw [if_pos hs] at HwE
  have Hs := zh hs
  rw [HwL.out, HwE.out, if_neg hc]
  clear hs hc
 case' inr.inr =>
  have hq : (se == 0) = false := by simpa using hs
  have hq2 : (se != 0) = true := by simpa using hs
  rw [if_neg hs] at HwE
  rw [HwL.out, HwE.out, if_neg hs]
  clear hs
 all_goals
  go_enter Tryz.func82, Tryz.ntmps82
  go_wp2_with fail
  refine Hown.out.mono ?_
  rintro e w1 ⟨v1, rfl, hg1, hb1⟩
  obtain ⟨va, vc, rfl⟩ := hg1.gath.shape
  have hJ := RX hg1
  have hb2 : Below w.heap.size w (w1.alloc (.cells #[.slice va l.length vc] 178)) := Aj hb1 bal
  have Hea := zh (HE.out w1.heap.size hb1.size _ ⟨hJ, hb2⟩)
  clear hJ hb2 hg1 hb1
  go_wp2_with fail
  refine Hea.out.mono ?_
  rintro e w3 ⟨rfl, hb3, hI3⟩
 ·have Hb3 := zh hb3
  clear hI3
  go_wp2_with fail
  go_ret2
  exact ⟨_, rfl, Ah.nil _ _ _ _ (by omega), Hb3.out⟩
 ·obtain ⟨hJ3, hB3⟩ := hI3 Hs.out
  obtain ⟨v3, S3, hG3, hS3, _, hc3⟩ := hJ3
  obtain ⟨a3, c3, rfl⟩ := hG3.gath.shape
  have hst := EW.store ⟨S3, hG3, fun b hb => (hS3 b hb).2⟩ HJl.out
  have j0 := Aa (j := 0) hc3 rfl
  have Hck := zh (HC.out _ _ hst)
  go_wp2_with fail
  refine Hck.out.mono ?_
  rintro e w4 ⟨rfl, hb4⟩
  have j4 := Aa (j := 0) ((hb4.block _ (lt_of_block hc3)).trans hc3) rfl
  have Hend := zh (And.intro (hst.below hb4) (Aj hB3 hb4))
  have Hx := zh (Aj hB3 hb4)
  go_wp2_with fail
  go_ret2
  exact ⟨_, rfl, Ah.nil _ _ _ _ (by omega), Hend.out.2⟩
 ·obtain ⟨hJ3, hB3⟩ := hI3 Hs.out
  obtain ⟨v3, S3, hG3, hS3, _, hc3⟩ := hJ3
  obtain ⟨a3, c3, rfl⟩ := hG3.gath.shape
  have hst := EW.store ⟨S3, hG3, fun b hb => (hS3 b hb).2⟩ HJl.out
  have j0 := Aa (j := 0) hc3 rfl
  have Hck := zh (HC.out _ _ hst)
  go_wp2_with fail
  refine Hck.out.mono ?_
  rintro e w4 ⟨rfl, hb4⟩
  have j4 := Aa (j := 0) ((hb4.block _ (lt_of_block hc3)).trans hc3) rfl
  have Hend := zh (And.intro (hst.below hb4) (Aj hB3 hb4))
  go_wp2_with fail
  go_ret2
  exact ⟨_, rfl, Hend.out.1, Hend.out.2⟩
def Ev (more : List Obj) : Int := Ap (fun k => Ax (obj more k)) more.length
theorem LQ (more : List Obj) (w0 : World) : XW 67 #[] more w0 (fun _ x => Below w0.heap.size w0 x) (fun k => Ax (obj more k)) where
 enter := fun _ _ => rfl
 below := fun k x h => h
 next := fun k x y h hb => Aj h hb
 step := fun k x lv S hk hs hI ho => by
  refine (Lh (obj more k) lv S x ho).mono ?_
  rintro e w' ⟨rfl, h2⟩
  exact ⟨rfl, Aj hI h2, fun _ => Aj hI h2⟩
theorem WT (l more : List Obj) (lv mv : Value) (S S' : Nat → Prop) (w : World) (h : Ah S w lv l) (hm : Ah S' w mv more) :
  Calls Tryz.prog 24 #[lv, mv] w fun e w' => IY w w' e (Cz l more) (Dx l more) := by
 have HC := zh (fun x (hx : Below w.heap.size w x) => EC l lv _ x (h.below hx))
 have HE := zh (fun x (hx : Below w.heap.size w x) => NC (LQ more w) mv S' hm hx)
 have HW := zh (fun (hr : AC l) hl hml x (hx : Below w.heap.size w x) => Pa l more lv mv S S' x (h.below hx) (hm.below hx) hr hl hml)
 have HwE := zh (show Dx l more = if Ag l ≠ 0 then Ag l else if 12 < more.length then 2 else if Ev more ≠ 0 then Ev more else BY l more from rfl)
 have HwL := zh (show Cz l more = if Dx l more = 0 then Ar l more more.length else [] from rfl)
 have HwL2 := zh (show Ch l more = if BY l more = 0 then Ar l more more.length else [] from rfl)
 obtain ⟨la, lc, rfl⟩ := h.vshape
 obtain ⟨ma, mc, rfl⟩ := hm.vshape
 have Hz := zh (@BR l)
 have Hri := zh (@AR l)
 have hee : Ap (fun k => Ax (obj more k)) more.length = Ev more := rfl
 rw [hee] at HE
 have hm63 : more.length * 56 ≤ 140737488351232 := by
  obtain ⟨_, ⟨_, _, _, _, _, h3, _⟩, _⟩ := hm
  exact h3
 clear h hm hee
 generalize Ev more = ee at *
 by_cases hc : Ag l = 0
 ·have hq : (Ag l == 0) = true := by simpa using hc
  have hlen := (Hz.out hc).1
  have HW2 := zh (fun hml => HW.out (Hri.out hc) (by omega) hml)
  rw [hc] at HC
  by_cases h12 : 12 < more.length
  ·have hd : decide ((12 : Int) < (more.length : Int)) = true := by simp; omega
   have e1 : Dx l more = 2 := by rw [HwE.out]; simp [hc, h12]
   have e2 : Cz l more = [] := by rw [HwL.out, e1]; rfl
   rw [e1, e2]
   clear e1 e2
   clear hc hq
   go_enter Tryz.func24, Tryz.ntmps24
   go_wp2_with fail
   refine (HC.out _ (Below.refl _ _)).mono ?_
   rintro e w1 ⟨rfl, hb1⟩
   go_wp2_with fail
   go_ret2
   exact ⟨_, rfl, Ah.nil _ _ _ _ (by omega), hb1⟩
  ·have hd : decide ((12 : Int) < (more.length : Int)) = false := by simp; omega
   have HW3 := zh (HW2.out (by omega))
   by_cases he : ee = 0
   ·have e1 : Dx l more = BY l more := by rw [HwE.out]; simp [hc, h12, he]
    have e2 : Cz l more = Ch l more := by rw [HwL.out, HwL2.out, e1]
    rw [e1, e2]
    clear e1 e2
    rw [he] at HE
    clear hc hq h12 he
    go_enter Tryz.func24, Tryz.ntmps24
    go_wp2_with fail
    refine (HC.out _ (Below.refl _ _)).mono ?_
    rintro e w1 ⟨rfl, hb1⟩
    go_wp2_with fail
    refine (HE.out _ hb1).mono ?_
    rintro e w2 ⟨rfl, hb2, _⟩
    go_wp2_with fail
    refine (HW3.out _ hb2).mono ?_
    rintro e w3 ⟨v3, rfl, hv3, hb3⟩
    obtain ⟨a3, c3, rfl⟩ := hv3.vshape
    have Hend := zh (And.intro (hv3.weaken (S' := fun b => w.heap.size ≤ b) fun b hb => Nat.le_trans hb2.size hb) (Aj hb2 hb3))
    clear hv3 hb3 hb2
    go_wp2_with fail
    go_ret2
    exact ⟨_, rfl, Hend.out.1, Hend.out.2⟩
   ·have hq3 : (ee == 0) = false := by simpa using he
    have hq4 : (ee != 0) = true := by simpa using he
    have e1 : Dx l more = ee := by rw [HwE.out]; simp [hc, h12, he]
    have e2 : Cz l more = [] := by rw [HwL.out, e1, if_neg he]
    rw [e1, e2]
    clear e1 e2
    clear hc hq h12 he
    go_enter Tryz.func24, Tryz.ntmps24
    go_wp2_with fail
    refine (HC.out _ (Below.refl _ _)).mono ?_
    rintro e w1 ⟨rfl, hb1⟩
    go_wp2_with fail
    refine (HE.out _ hb1).mono ?_
    rintro e w2 ⟨rfl, hb2, _⟩
    go_wp2_with fail
    go_ret2
    exact ⟨_, rfl, Ah.nil _ _ _ _ (by omega), hb2⟩
 ·have hq : (Ag l == 0) = false := by simpa using hc
  have hq2 : (Ag l != 0) = true := by simpa using hc
  rw [HwL.out, HwE.out, if_pos hc, if_neg hc]
  generalize Ag l = cl at *
  go_enter Tryz.func24, Tryz.ntmps24
  go_wp2_with fail
  refine (HC.out _ (Below.refl _ _)).mono ?_
  rintro e w1 ⟨rfl, hb1⟩
  go_wp2_with fail
  go_ret2
  exact ⟨_, rfl, Ah.nil _ _ _ _ (by omega), hb1⟩
end Go.Proofs.YtjdgpgfiomnjkaaGreatDoor
namespace Go.Proofs.YtjdgpgfiomnjkaaGreatDoor
theorem FN {l : List Obj} {i : Nat} (h : i < l.length) : obj l i ∈ l := JN h
theorem GX {l : List Obj} {x : Obj} (h : x ∈ l) : ∃ i, i < l.length ∧ obj l i = x := by
 obtain ⟨i, hi, rfl⟩ := List.getElem_of_mem h
 exact ⟨i, hi, Df hi⟩
theorem XA {l : List Obj} {i : Nat} {o x : Obj} : x ∈ JQ l i o ↔ x = o ∨ x ∈ l := by
 unfold JQ
 rw [List.mem_append, List.mem_cons]
 constructor
 ·rintro (h | h | h)
  ·exact .inr (List.mem_of_mem_take h)
  ·exact .inl h
  ·exact .inr (List.mem_of_mem_drop h)
 ·rintro (h | h)
  ·exact .inr (.inl h)
  ·rw [← List.take_append_drop i l, List.mem_append] at h
   rcases h with h | h
   ·exact .inl h
   ·exact .inr (.inr h)
theorem KV {l : List Obj} {id : Int} (h : CK l id = true) : lo l id < l.length ∧ (obj l (lo l id)).id = id := by
 unfold CK at h; simpa using h
theorem AC.isAt_mem {l : List Obj} (h : AC l) {x : Obj} (hx : x ∈ l) : CK l x.id = true ∧ obj l (lo l x.id) = x := by
 obtain ⟨i, hi, rfl⟩ := GX hx
 exact ⟨h.isAt_self hi, by rw [h.lo_self hi]⟩
theorem Ny {l : List Obj} {o : Obj} : Gr l o = 0 ↔ (CK l o.id = true → obj l (lo l o.id) = o) := by
 unfold Gr
 by_cases h : CK l o.id = true ∧ By (obj l (lo l o.id)) o = false
 ·rw [if_pos h]
  constructor
  ·intro e; cases e
  ·intro e
   have := e h.1
   have h2 := h.2
   rw [this] at h2
   rw [(DB o o).2 rfl] at h2; cases h2
 ·rw [if_neg h]
  refine ⟨fun _ hat => ?_, fun _ => rfl⟩
  cases hs : By (obj l (lo l o.id)) o
  ·exact absurd ⟨hat, hs⟩ h
  ·exact (DB _ _).1 hs
theorem Gi {l : List Obj} {n : Nat} (h : n < l.length) : l.take (n + 1) = l.take n ++ [obj l n] := by
 rw [List.take_succ_eq_append_getElem h, Df h]
theorem FH {l more : List Obj} : ∀ {n : Nat}, n ≤ more.length → Ap (BO l more) n = 0 → ∀ x, x ∈ Ar l more n ↔ x ∈ l ∨ x ∈ more.take n
 | 0, _, _, x => by simp [Ar]
 | n + 1, hn, h, x => by
  have h0 : BO l more n = 0 := Bh h n (by omega)
  have hs : Ap (BO l more) n = 0 := AW fun k hk => Bh h k (by omega)
  have ih := FH (by omega) hs
  rw [Gi hn, List.mem_append, List.mem_singleton]
  show x ∈ Fk (Ar l more n) (obj more n) ↔ _
  unfold Fk
  by_cases hat : CK (Ar l more n) (obj more n).id = true
  ·rw [if_pos hat, ih x]
   have ho := (Ny.1 h0) hat
   have hm : obj more n ∈ Ar l more n := by rw [← ho]; exact FN (KV hat).1
   have hm' := (ih _).1 hm
   constructor
   ·rintro (a | a)
    ·exact .inl a
    ·exact .inr (.inl a)
   ·rintro (a | a | a)
    ·exact .inl a
    ·exact .inr a
    ·rw [a]; exact hm'
  ·rw [if_neg hat, XA, ih x]
   constructor
   ·rintro (a | a | a)
    ·exact .inr (.inr a)
    ·exact .inl a
    ·exact .inr (.inl a)
   ·rintro (a | a | a)
    ·exact .inr (.inl a)
    ·exact .inr (.inr a)
    ·exact .inl a
def Yw (l more : List Obj) : Prop := ∀ x y, (x ∈ l ∨ x ∈ more) → (y ∈ l ∨ y ∈ more) → x.id = y.id → x = y
theorem QN {l more : List Obj} (hr : AC l) : Ap (BO l more) more.length = 0 ↔ Yw l more := by
 constructor
 ·intro h x y hx hy e
  have hm := FH (Nat.le_refl _) h
  have hJ := FX hr more more.length
  rw [List.take_length] at hm
  have h1 := hJ.isAt_mem ((hm x).2 hx)
  have h2 := hJ.isAt_mem ((hm y).2 hy)
  rw [← h1.2, e, h2.2]
 ·intro hc
  have : ∀ n, n ≤ more.length → Ap (BO l more) n = 0 := by
   intro n
   induction n with
   | zero => intro _; rfl
   | succ n ih =>
    intro hn
    have hs := ih (by omega)
    refine AB hs (Ny.2 fun hat => ?_)
    have hm := FH (Nat.le_of_succ_le hn) hs
    have h1 := KV hat
    have h2 := (hm _).1 (FN h1.1)
    exact hc _ _ (h2.imp id List.mem_of_mem_take) (.inr (FN hn)) h1.2
  exact this _ (Nat.le_refl _)
theorem AC.pairwise {l : List Obj} (h : AC l) : l.Pairwise (fun x y => x.id < y.id) := by
 rw [List.pairwise_iff_getElem]
 intro i j hi hj hij
 have := h i j hij hj
 rwa [Df hi, Df hj] at this
theorem ND : ∀ {a b : List Obj}, a.Pairwise (fun x y => x.id < y.id) → b.Pairwise (fun x y => x.id < y.id) → (∀ x, x ∈ a ↔ x ∈ b) → a = b
 | [], [], _, _, _ => rfl
 | [], y :: b, _, _, h => absurd ((h y).2 List.mem_cons_self) (by simp)
 | x :: a, [], _, _, h => absurd ((h x).1 List.mem_cons_self) (by simp)
 | x :: a, y :: b, ha, hb, h => by
  rw [List.pairwise_cons] at ha hb
  have e : x = y := by
   rcases List.mem_cons.1 ((h x).1 List.mem_cons_self) with e | h1
   ·exact e
   ·rcases List.mem_cons.1 ((h y).2 List.mem_cons_self) with e | h2
    ·exact e.symm
    ·have := hb.1 _ h1; have := ha.1 _ h2; omega
  subst e
  rw [ND ha.2 hb.2 fun z => ⟨fun hz => ?_, fun hz => ?_⟩]
  ·rcases List.mem_cons.1 ((h z).1 (List.mem_cons_of_mem _ hz)) with e | h1
   ·subst e; have := ha.1 _ hz; omega
   ·exact h1
  ·rcases List.mem_cons.1 ((h z).2 (List.mem_cons_of_mem _ hz)) with e | h1
   ·subst e; have := hb.1 _ hz; omega
   ·exact h1
theorem AC.ext {a b : List Obj} (ha : AC a) (hb : AC b) (h : ∀ x, x ∈ a ↔ x ∈ b) : a = b := ND ha.pairwise hb.pairwise h
structure XS (l more J : List Obj) : Prop where
 left : Ag l = 0
 many : more.length ≤ 12
 each : ∀ o ∈ more, Ax o = 0
 cons : Yw l more
 whole : Ag J = 0
 mem : ∀ x, x ∈ J ↔ x ∈ l ∨ x ∈ more
theorem add_zero {l more : List Obj} : Dx l more = 0 ↔ XS l more (Ar l more more.length) := by
 unfold Dx
 by_cases h1 : Ag l = 0
 ·rw [if_neg (by simpa using h1)]
  by_cases h2 : 12 < more.length
  ·rw [if_pos h2]; exact ⟨fun e => (by cases e), fun e => (by have := e.many; omega)⟩
  ·rw [if_neg h2]
   have hr := AR h1
   by_cases h3 : Ap (fun k => Ax (obj more k)) more.length = 0
   ·rw [if_neg (by simpa using h3)]
    unfold BY
    have he : ∀ o ∈ more, Ax o = 0 := fun o ho => by
     obtain ⟨i, hi, rfl⟩ := GX ho
     exact Bh h3 i hi
    by_cases h4 : Ap (BO l more) more.length = 0
    ·rw [if_pos h4]
     refine ⟨fun e => ⟨h1, by omega, he, (QN hr).1 h4, e, fun x => ?_⟩, fun e => e.whole⟩
     have := FH (Nat.le_refl _) h4 x
     rwa [List.take_length] at this
    ·rw [if_neg h4]; exact ⟨fun e => absurd e h4, fun e => absurd ((QN hr).2 e.cons) h4⟩
   ·rw [if_pos (by simpa using h3)]
    refine ⟨fun e => absurd e h3, fun e => absurd (AW fun k hk => e.each _ (FN hk)) h3⟩
 ·rw [if_pos (by simpa using h1)]; exact ⟨fun e => absurd e h1, fun e => absurd e.left h1⟩
theorem Vj {l more : List Obj} (h : Dx l more = 0) : XS l more (Cz l more) := by
 have := add_zero.1 h
 unfold Cz; rw [if_pos h]; exact this
end Go.Proofs.YtjdgpgfiomnjkaaGreatDoor
