/- AddA: Join, Each, WithP, With, Add, Find. -/
import Derived.Test.YtjdgpgfiomnjkaaGreatDoorR7
set_option linter.all false
set_option maxHeartbeats 4000000
set_option maxRecDepth 100000
namespace Go.Proofs.YtjdgpgfiomnjkaaGreatDoor
open Go.RowKit
def GA (l : List Obj) (o : Obj) : Int := if CJ l o.id = true ∧ Bu (obj l (lo l o.id)) o = false then 6 else 0
def Fo (l : List Obj) (o : Obj) : List Obj := if CJ l o.id = true then l else JE l (lo l o.id) o
def GL (B J : Nat) (w : World) (l : List Obj) : Prop :=
 ∃ v S, De S B w v l ∧ (∀ b, S b → b ≠ J ∧ B ≤ b) ∧ v.ownBlock ≠ some J ∧ w.heap[J]? = some (.cells #[v] 178 (0, 0))
theorem GL.below {B J : Nat} {w w' : World} {l : List Obj} (h : GL B J w l) (hb : Below w.heap.size w w') : GL B J w' l := by
 obtain ⟨v, S, h1, h2, h3, h4⟩ := h
 exact ⟨v, S, h1.below hb, h2, h3, (hb.block _ (lt_of_block h4)).trans h4⟩
theorem Ku {B J : Nat} {w x0 xo w9 : World} {v v' : Value} {m : List Obj} {S : Nat → Prop} (hB : B ≤ J) (hJw : J < w.heap.size) (hSJ : ∀ b, S b → b ≠ J ∧ B ≤ b) (hvJ : v.ownBlock ≠ some J) (hcJ : w.heap[J]? = some (.cells #[v] 178 (0, 0)))
  (hb0 : Below w.heap.size w x0) (hb : Below w.heap.size w xo) (hvB : ∀ g, v.ownBlock = some g → B ≤ g) (hG : De (fun b => S b ∨ (x0.heap.size ≤ b ∧ b < xo.heap.size)) B w9 v' m) (hu : Aq (fun b => v.ownBlock = some b) xo w9) (hat : v'.ownBlock = v.ownBlock ∨ ∃ k, v'.ownBlock = some k ∧ xo.heap.size ≤ k) :
  GL B J (w9.setCell ⟨J, 0, none⟩ v') m ∧ Below B w (w9.setCell ⟨J, 0, none⟩ v') := by
 have h0 := hb0.size
 have h1 := hb.size
 have hJ9 : w9.heap[J]? = some (.cells #[v] 178 (0, 0)) := hu.blk ((hb.block _ hJw).trans hcJ) hvJ
 have hu2 : Aq (fun b => b = J) w9 (w9.setCell ⟨J, 0, none⟩ v') := (Aq.refl (fun b => b = J) w9).setCell (p := ⟨J, 0, none⟩) (fun _ => rfl) _
 have hv' : v'.ownBlock ≠ some J := by
  rcases hat with h | ⟨k, h, hk⟩
  ·rw [h]; exact hvJ
  ·rw [h]; intro e; cases e; omega
 refine ⟨⟨v', _, hG.upd hu2 (fun b hb' e => ?_) (fun g hg e => hv' (by rw [hg, e])), fun b hb' => ?_, hv', Ad (j := 0) hJ9 v'⟩, ?_⟩
 ·rcases hb' with h | h
  ·exact (hSJ b h).1 e
  ·omega
 ·rcases hb' with h | h
  ·exact hSJ b h
  ·exact ⟨by omega, by omega⟩
 ·exact (hb.mono (by omega)).trans ((hu.below (by omega) hvB).trans (hu2.below (B := B) (by have := hu.size; omega) (fun b e => by omega)))
theorem VZ {B J : Nat} {l : List Obj} {w : World} (hJ : GL B J w l) (hr : AB l) (o : Obj) (lv : Value) (S2 : Nat → Prop) (ho : Br S2 w o lv) (hl : l.length ≤ 900) (hB : B ≤ J) :
  Calls Tryz.prog 143 #[.pointer (some ⟨J, 0, none⟩), .agg #[.int .i64 o.id, .int .i64 o.kind, lv, .string o.text]] w
   fun e w' => e = .returned (.int .i64 (GA l o)) ∧ GL B J w' (Fo l o) ∧ Below B w w' := by
 have hJ' := hJ
 obtain ⟨v, S, hG, hSJ, hvJ, hcJ⟩ := hJ
 obtain ⟨va, vc, rfl⟩ := hG.gath.shape
 obtain ⟨⟨lp, lc⟩, rfl⟩ := ho.1.shape
 have hJw := lt_of_block hcJ
 have hst := hG.gath.store (by omega)
 obtain ⟨Q, hQ, hQ1, y0, y1, y2, y3⟩ := Ey w (.int .i64 o.id) (.int .i64 o.kind) (.slice lp o.links.length lc) (.string o.text) 46
 have hQb := hQ.below
 have hQn := hQ.next
 have hQg := BE hQ
 have cJ := fun x (hx : In Q x) => Aa (w := x) (j := 0) ((hQb x hx).block _ hJw |>.trans hcJ) rfl
 have Hat := zh (fun x (hx : In Q x) => KP l _ _ o.id x (hst.below (hQb _ hx)) hr)
 have hlo := OE l o.id
 cases hat : CJ l o.id
 ·have HjL := zh (show Fo l o = JE l (lo l o.id) o by unfold Fo; rw [if_neg (by simp [hat])])
  have HjE := zh (show GA l o = 0 by unfold GA; simp [hat])
  rw [HjL.out, HjE.out]
  rw [hat] at Hat
  generalize lo l o.id = k at *
  have Ho := zh ho
  have HG := zh hG
  have HSJ := zh hSJ
  have HcJ := zh hcJ
  clear hst hJ' hr ho hG hSJ hcJ
  go_enter Tryz.func143, Tryz.ntmps143
  go_wp2_with fail
  refine wp_region_quiet_below (by kernel_rfl) (by kernel_rfl) ?_
  repeat (quiet_step (exact Calls.regrown_of (Hat.out _ (hQg _ _ _ hQ1))))
  refine wpQuiet_nil ?_
  intro _ hw'
  obtain ⟨⟨dq, osq⟩, hw''⟩ := hw'
  subst hw''
  have hQ2 := hQg _ dq osq hQ1
  generalize Go.Sort.grow (redrawn _ dq) osq = w5 at *
  go_wp2_with fail
  have hQd := hQ.drew _ hQ2
  refine Dm (by kernel_rfl) rfl ?_
  generalize w5.drew = x0 at *
  refine Ar 0 (.pointer (some ⟨J, 0, none⟩)) rfl (by kernel_rfl) (by kernel_rfl) (by kernel_rfl) (fun _ _ _ h => h) (by rfl) (fun w => ?_) ?_
  ·go_simp
  simp only [tkS]
  refine Ar 1 (.pointer (some ⟨J, 0, none⟩)) rfl (by kernel_rfl) (by kernel_rfl) (by kernel_rfl) (fun _ _ _ h => h) (by rfl) (fun w => ?_) ?_
  ·go_simp
  simp only [tkS]
  refine Ar 2 (.pointer (some ⟨J, 0, none⟩)) rfl (by kernel_rfl) (by kernel_rfl) (by kernel_rfl) (fun _ _ _ h => h) (by rfl) (fun w => ?_) ?_
  ·go_simp
  simp only [tkS]
  refine Ar 3 (.pointer (some ⟨J, 0, none⟩)) rfl (by kernel_rfl) (by kernel_rfl) (by kernel_rfl) (fun _ _ _ h => h) (by rfl) (fun w => ?_) ?_
  ·go_simp
  simp only [tkS]
  refine Ar 5 (.int .i64 (k : Int)) rfl (by kernel_rfl) (by kernel_rfl) (by kernel_rfl) (fun _ _ _ h => h) (by rfl) (fun w => ?_) ?_
  ·go_simp
  simp only [tkS]
  have HQn := zh hQn
  have HQa := zh hQ.alloc
  have hQ0 := hQd
  clear hQd
  have z0 := y0 _ hQ0
  have z1 := y1 _ hQ0
  have z2 := y2 _ hQ0
  have z3 := y3 _ hQ0
  have zJ := cJ _ hQ0
  have hown := OP o _ S2 x0 (Ho.out.below (hQb _ hQ0))
  refine ES 4 6 (by kernel_rfl) (El rfl (by rfl) (fun K hK => ?_)) (El rfl (by rfl) (fun K hK => ?_))
  ·go_wp2_with fail
   refine Ak 6 (by kernel_rfl) rfl (by rfl) (fun K hK => ?_)
   go_wp2_with fail
   refine Ak 7 (by kernel_rfl) rfl (by rfl) (fun K hK => ?_)
   go_wp2_with fail
   refine hown.mono ?_
   rintro e xo ⟨lo, rfl, hoo, hbo⟩
   obtain ⟨⟨lop, loc⟩, rfl⟩ := hoo.1.shape
   have hQo := HQn.out _ _ hQ0 hbo
   have zJo := cJ _ hQo
   have zJo2 := cJ _ (HQa.out _ (.cells #[.int .i64 o.id, .int .i64 o.kind, .slice lop o.links.length loc, .string o.text] 46) hQo)
   go_wp2_with fail
   refine Ak 8 (by kernel_rfl) rfl (by rfl) (fun K hK => ?_)
   go_wp2_with fail
   have hin := FV (HG.out.below (hQb _ hQo)) hoo.lt (fun b hb => ⟨hb.2, fun e => by have h1 := (HG.out.gath.block e).2; have h2 := (hQb _ hQ0).size; omega⟩) (show l.length ≤ 1000 by omega) (show B ≤ xo.heap.size by have := (hQb _ hQo).size; omega) hlo rfl
   refine Ak 9 (by kernel_rfl) rfl (by rfl) (fun K hK => ?_)
   go_wp2_with fail
   refine hin.mono ?_
   rintro e w9 ⟨v', rfl, hG9, hu9, hat9⟩
   have Hend := zh (Ku hB hJw HSJ.out hvJ HcJ.out (hQb _ hQ0) (hQb _ hQo) (fun g hg => (HG.out.gath.block hg).1) hG9 hu9 hat9)
   have hJ9 : w9.heap[J]? = some (.cells #[_] 178 (0, 0)) := hu9.blk (((hQb _ hQo).block _ hJw).trans HcJ.out) hvJ
   have cJ9 := Aa (j := 0) hJ9 rfl
   have fJ9 := Ab (j := 0) hJ9
   obtain ⟨⟨va9, vc9⟩, hv9⟩ : ∃ p : Option Addr × Nat, v' = .slice p.1 (JE l k o).length p.2 := by
    obtain ⟨a, c, h⟩ := hG9.gath.shape
    exact ⟨(a, c), h⟩
   subst hv9
   clear hin hG9 hu9 hat9 hJ9
   go_wp2_with fail
   refine Ak 10 (by kernel_rfl) rfl (by rfl) (fun K hK => ?_)
   go_wp2_with fail
   refine Ak 11 (by kernel_rfl) rfl (by rfl) (fun K hK => ?_)
   go_wp2_with fail
   refine Ak 12 (by kernel_rfl) rfl (by rfl) (fun K hK => ?_)
   go_wp2_with fail
   refine BC (by kernel_rfl) ?_
   go_wp2_with fail
   go_ret
   exact ⟨rfl, Hend.out⟩
  ·go_wp2_with fail
   refine ES 4 7 (by kernel_rfl) (El rfl (by rfl) (fun K hK => ?_)) (El rfl (by rfl) (fun K hK => ?_))
   ·go_wp2_with fail
    refine Ak 7 (by kernel_rfl) rfl (by rfl) (fun K hK => ?_)
    go_wp2_with fail
    refine hown.mono ?_
    rintro e xo ⟨lo, rfl, hoo, hbo⟩
    obtain ⟨⟨lop, loc⟩, rfl⟩ := hoo.1.shape
    have hQo := HQn.out _ _ hQ0 hbo
    have zJo := cJ _ hQo
    have zJo2 := cJ _ (HQa.out _ (.cells #[.int .i64 o.id, .int .i64 o.kind, .slice lop o.links.length loc, .string o.text] 46) hQo)
    go_wp2_with fail
    refine Ak 8 (by kernel_rfl) rfl (by rfl) (fun K hK => ?_)
    go_wp2_with fail
    have hin := FV (HG.out.below (hQb _ hQo)) hoo.lt (fun b hb => ⟨hb.2, fun e => by have h1 := (HG.out.gath.block e).2; have h2 := (hQb _ hQ0).size; omega⟩) (show l.length ≤ 1000 by omega) (show B ≤ xo.heap.size by have := (hQb _ hQo).size; omega) hlo rfl
    refine Ak 9 (by kernel_rfl) rfl (by rfl) (fun K hK => ?_)
    go_wp2_with fail
    refine hin.mono ?_
    rintro e w9 ⟨v', rfl, hG9, hu9, hat9⟩
    have Hend := zh (Ku hB hJw HSJ.out hvJ HcJ.out (hQb _ hQ0) (hQb _ hQo) (fun g hg => (HG.out.gath.block hg).1) hG9 hu9 hat9)
    have hJ9 : w9.heap[J]? = some (.cells #[_] 178 (0, 0)) := hu9.blk (((hQb _ hQo).block _ hJw).trans HcJ.out) hvJ
    have cJ9 := Aa (j := 0) hJ9 rfl
    have fJ9 := Ab (j := 0) hJ9
    obtain ⟨⟨va9, vc9⟩, hv9⟩ : ∃ p : Option Addr × Nat, v' = .slice p.1 (JE l k o).length p.2 := by
     obtain ⟨a, c, h⟩ := hG9.gath.shape
     exact ⟨(a, c), h⟩
    subst hv9
    clear hin hG9 hu9 hat9 hJ9
    go_wp2_with fail
    refine Ak 10 (by kernel_rfl) rfl (by rfl) (fun K hK => ?_)
    go_wp2_with fail
    refine Ak 11 (by kernel_rfl) rfl (by rfl) (fun K hK => ?_)
    go_wp2_with fail
    refine Ak 12 (by kernel_rfl) rfl (by rfl) (fun K hK => ?_)
    go_wp2_with fail
    refine BC (by kernel_rfl) ?_
    go_wp2_with fail
    go_ret
    exact ⟨rfl, Hend.out⟩
   ·go_wp2_with fail
    refine hown.mono ?_
    rintro e xo ⟨lo, rfl, hoo, hbo⟩
    obtain ⟨⟨lop, loc⟩, rfl⟩ := hoo.1.shape
    have hQo := HQn.out _ _ hQ0 hbo
    have zJo := cJ _ hQo
    have zJo2 := cJ _ (HQa.out _ (.cells #[.int .i64 o.id, .int .i64 o.kind, .slice lop o.links.length loc, .string o.text] 46) hQo)
    go_wp2_with fail
    refine ES 4 8 (by kernel_rfl) (El rfl (by rfl) (fun K hK => ?_)) (El rfl (by rfl) (fun K hK => ?_))
    ·go_wp2_with fail
     refine Ak 8 (by kernel_rfl) rfl (by rfl) (fun K hK => ?_)
     go_wp2_with fail
     have hin := FV (HG.out.below (hQb _ hQo)) hoo.lt (fun b hb => ⟨hb.2, fun e => by have h1 := (HG.out.gath.block e).2; have h2 := (hQb _ hQ0).size; omega⟩) (show l.length ≤ 1000 by omega) (show B ≤ xo.heap.size by have := (hQb _ hQo).size; omega) hlo rfl
     refine Ak 9 (by kernel_rfl) rfl (by rfl) (fun K hK => ?_)
     go_wp2_with fail
     refine hin.mono ?_
     rintro e w9 ⟨v', rfl, hG9, hu9, hat9⟩
     have Hend := zh (Ku hB hJw HSJ.out hvJ HcJ.out (hQb _ hQ0) (hQb _ hQo) (fun g hg => (HG.out.gath.block hg).1) hG9 hu9 hat9)
     have hJ9 : w9.heap[J]? = some (.cells #[_] 178 (0, 0)) := hu9.blk (((hQb _ hQo).block _ hJw).trans HcJ.out) hvJ
     have cJ9 := Aa (j := 0) hJ9 rfl
     have fJ9 := Ab (j := 0) hJ9
     obtain ⟨⟨va9, vc9⟩, hv9⟩ : ∃ p : Option Addr × Nat, v' = .slice p.1 (JE l k o).length p.2 := by
      obtain ⟨a, c, h⟩ := hG9.gath.shape
      exact ⟨(a, c), h⟩
     subst hv9
     clear hin hG9 hu9 hat9 hJ9
     go_wp2_with fail
     refine Ak 10 (by kernel_rfl) rfl (by rfl) (fun K hK => ?_)
     go_wp2_with fail
     refine Ak 11 (by kernel_rfl) rfl (by rfl) (fun K hK => ?_)
     go_wp2_with fail
     refine Ak 12 (by kernel_rfl) rfl (by rfl) (fun K hK => ?_)
     go_wp2_with fail
     refine BC (by kernel_rfl) ?_
     go_wp2_with fail
     go_ret
     exact ⟨rfl, Hend.out⟩
    ·go_wp2_with fail
     refine Ak 4 (by kernel_rfl) rfl (by rfl) (fun K hK => ?_)
     go_wp2_with fail
     have hin := FV (HG.out.below (hQb _ hQo)) hoo.lt (fun b hb => ⟨hb.2, fun e => by have h1 := (HG.out.gath.block e).2; have h2 := (hQb _ hQ0).size; omega⟩) (show l.length ≤ 1000 by omega) (show B ≤ xo.heap.size by have := (hQb _ hQo).size; omega) hlo rfl
     refine Ak 9 (by kernel_rfl) rfl (by rfl) (fun K hK => ?_)
     go_wp2_with fail
     refine hin.mono ?_
     rintro e w9 ⟨v', rfl, hG9, hu9, hat9⟩
     have Hend := zh (Ku hB hJw HSJ.out hvJ HcJ.out (hQb _ hQ0) (hQb _ hQo) (fun g hg => (HG.out.gath.block hg).1) hG9 hu9 hat9)
     have hJ9 : w9.heap[J]? = some (.cells #[_] 178 (0, 0)) := hu9.blk (((hQb _ hQo).block _ hJw).trans HcJ.out) hvJ
     have cJ9 := Aa (j := 0) hJ9 rfl
     have fJ9 := Ab (j := 0) hJ9
     obtain ⟨⟨va9, vc9⟩, hv9⟩ : ∃ p : Option Addr × Nat, v' = .slice p.1 (JE l k o).length p.2 := by
      obtain ⟨a, c, h⟩ := hG9.gath.shape
      exact ⟨(a, c), h⟩
     subst hv9
     clear hin hG9 hu9 hat9 hJ9
     go_wp2_with fail
     refine Ak 10 (by kernel_rfl) rfl (by rfl) (fun K hK => ?_)
     go_wp2_with fail
     refine Ak 11 (by kernel_rfl) rfl (by rfl) (fun K hK => ?_)
     go_wp2_with fail
     refine Ak 12 (by kernel_rfl) rfl (by rfl) (fun K hK => ?_)
     go_wp2_with fail
     refine BC (by kernel_rfl) ?_
     go_wp2_with fail
     go_ret
     exact ⟨rfl, Hend.out⟩
 ·have HjL := zh (show Fo l o = l by unfold Fo; rw [if_pos hat])
  have hk : lo l o.id < l.length := by unfold CJ at hat; simp at hat; exact hat.1
  have HjE := zh (show GA l o = if Bu (obj l (lo l o.id)) o = false then 6 else 0 by unfold GA; simp [hat])
  rw [HjL.out]
  obtain ⟨a5, n5, c5, la5, ln5, lc5, HN5, e5, _, _, _, h45, h55⟩ := hst.open
  cases e5
  obtain ⟨b, off, rfl, _, k0, k1, k2, k3⟩ := h45 (by omega)
  have Hs := zh (fun x (hx : In Q x) => PQ (obj l (lo l o.id)) o _ _ _ _ x ((h55 _ hk).below (hQb _ hx)) (ho.below (hQb _ hx)))
  rw [hat] at Hat
  generalize lo l o.id = k at *
  have x0 := fun x (hx : In Q x) => k0 k x hk (hQb x hx)
  have x1 := fun x (hx : In Q x) => k1 k x hk (hQb x hx)
  have x2 := fun x (hx : In Q x) => k2 k x hk (hQb x hx)
  have x3 := fun x (hx : In Q x) => k3 k x hk (hQb x hx)
  have HJ := zh (fun x (hx : In Q x) => And.intro (hJ'.below (hQb x hx)) ((hQb x hx).mono (show B ≤ w.heap.size by omega)))
  have hi1 : (0 : Int) ≤ (k : Int) := by omega
  have hi2 : (k : Int) < (l.length : Int) := by omega
  clear k0 k1 k2 k3 h45 h55 hG hSJ hvJ hcJ hst hJ' hr HN5 ho
  rw [HjE.out]
  have Hend := zh (fun x (hx : In Q x) => HJ.out x hx)
  cases hs : Bu (obj l k) o
  case' false => rw [hs] at Hs
  case' true => rw [hs] at Hs
  all_goals
   go_enter Tryz.func143, Tryz.ntmps143
   go_wp2_with fail
   refine wp_region_quiet_below (by kernel_rfl) (by kernel_rfl) ?_
   repeat (quiet_step (exact Calls.regrown_of (Hat.out _ (hQg _ _ _ hQ1))))
   refine wpQuiet_nil ?_
   intro _ hw'
   obtain ⟨⟨dq, osq⟩, hw''⟩ := hw'
   subst hw''
   have hQ2 := hQg _ dq osq hQ1
   generalize Go.Sort.grow (redrawn _ dq) osq = w5 at *
   go_wp2_with fail
   refine wp_region_quiet_below (by kernel_rfl) (by kernel_rfl) ?_
   repeat (quiet_step (exact Calls.regrown_of (Hs.out _ (hQg _ _ _ hQ2))))
   refine wpQuiet_nil ?_
   intro _ hw'
   obtain ⟨⟨dq, osq⟩, hw''⟩ := hw'
   subst hw''
   have hQ3 := hQg _ dq osq hQ2
   generalize Go.Sort.grow (redrawn _ dq) osq = w6 at *
   go_wp2_with fail
   go_ret
   exact ⟨rfl, (Hend.out _ hQ3).1, (Hend.out _ hQ3).2⟩
structure XP (g : Nat) (f : Array Value) (l : List Obj) (w0 : World) (I : Nat → World → Prop) (err : Nat → Int) : Prop where
 enter : ∀ args w, (callFunc g args).run Tryz.prog w = .ok (.enter g args) w
 below : ∀ k x, I k x → Below w0.heap.size w0 x
 next : ∀ k x y, I k x → Below x.heap.size x y → I k y
 step : ∀ k x (lv : Value) (S : Nat → Prop), k < l.length → Ao err k = 0 → I k x → Br S x (obj l k) lv →
  Calls Tryz.prog g (f ++ #[.agg #[.int .i64 (obj l k).id, .int .i64 (obj l k).kind, lv, .string (obj l k).text]]) x fun e w' => e = .returned (.int .i64 (err k)) ∧ Below w0.heap.size w0 w' ∧ (err k = 0 → I (k + 1) w')
theorem Ma {g : Nat} {f : Array Value} {l : List Obj} {w0 w : World} {I : Nat → World → Prop} {err : Nat → Int} (hd : XP g f l w0 I err) (lv : Value) (S : Nat → Prop) (h : Ag S w0 lv l) (h0 : I 0 w) :
  Calls Tryz.prog 81 #[lv, .func (.func g) f #[]] w fun e w' => e = .returned (.int .i64 (Ao err l.length)) ∧ Below w0.heap.size w0 w' ∧ (Ao err l.length = 0 → I l.length w') := by
 have h' := h
 obtain ⟨a, n, cap, la, ln, lc, HN, rfl, h1, h2, h3, h4, h5⟩ := h.open
 have eg := hd.enter
 have Hd := zh hd
 have Hn := zh HN.out.1
 rw [← Hn.out]
 clear h hd
 go_enter Tryz.func81, Tryz.ntmps81
 go_wp2_with fail
 go_loopw [10] (fun i wr => ∃ k : Nat, k ≤ n ∧ i = .int .i64 k ∧ Hid (Ao err k = 0) ∧ Hid (I k wr)) (fun i _ => n - (intOf i).toNat)
 case atStart => exact ⟨0, by omega, rfl, rfl, h0⟩
 obtain ⟨k, hk, rfl, Hs, HI⟩ := hrel
 clear h0
 have hRw := Hd.out.below _ _ HI.out
 by_cases hlt : k < n
 ·obtain ⟨b, off, rfl, hb, k0, k1, k2, k3⟩ := h4 (by omega)
  have x0 := k0 k wr hlt hRw
  have x1 := k1 k wr hlt hRw
  have x2 := k2 k wr hlt hRw
  have x3 := k3 k wr hlt hRw
  obtain ⟨Q, hQ, hQ1, y0, y1, y2, y3⟩ := Ey wr (.int .i64 (obj l k).id) (.int .i64 (obj l k).kind) (.slice (la k) (ln k) (lc k)) (.string (obj l k).text) 46
  have Hc := zh (Hd.out.step k _ _ S (by rw [← Hn.out]; exact hlt) Hs.out (Hd.out.next _ _ _ HI.out (hQ.below _ hQ1)) ((h5 k hlt).below (Aj hRw (hQ.below _ hQ1))))
  have z0 := y0 _ hQ1
  have z1 := y1 _ hQ1
  have z2 := y2 _ hQ1
  have z3 := y3 _ hQ1
  have hi1 : (0 : Int) ≤ (k : Int) := by omega
  have hi2 : (k : Int) < (n : Int) := by omega
  clear k0 k1 k2 k3 h4 h5 y0 y1 y2 y3
  by_cases he : err k = 0
  ·have hq : (err k != 0) = false := by simpa using he
   have Hs2 := zh (show Ao err (k + 1) = 0 from AC Hs.out he)
   have He := zh he
   clear he
   go_wp2_with fail
   refine Hc.out.mono ?_
   rintro e w' ⟨rfl, hb2, hI2⟩
   have HI2 := zh (hI2 He.out)
   clear hI2 hb2
   go_wp2_with fail
   go_roundw
   case rel => exact ⟨k + 1, by omega, by go_num, Hs2, HI2⟩
   case measure => simp [intOf]; omega
  ·have hq : (err k != 0) = true := by simpa using he
   have Hs2 := zh (show Ao err n = err k from BY Hs.out he hlt)
   have He := zh he
   clear he
   go_wp2_with fail
   refine Hc.out.mono ?_
   rintro e w' ⟨rfl, hb2, hI2⟩
   clear hI2
   go_wp2_with fail
   go_ret
   exact ⟨Ae Hs2.out.symm, hb2, fun h => absurd (Hs2.out.symm.trans h) He.out⟩
 ·obtain rfl : k = n := by omega
  go_wp2_with fail
  go_ret
  exact ⟨Ae Hs.out.symm, hRw, fun _ => HI.out⟩
end Go.Proofs.YtjdgpgfiomnjkaaGreatDoor
namespace Go.Proofs.YtjdgpgfiomnjkaaGreatDoor
theorem Sy {l : List Obj} {i : Nat} {o : Obj} (h : AB l) (hi : i ≤ l.length) (h1 : ∀ j, j < i → (obj l j).id < o.id) (h2 : ∀ j, i ≤ j → j < l.length → o.id < (obj l j).id) : AB (JE l i o) := by
 intro a b hab hb
 rw [CE hi] at hb
 rcases Nat.lt_trichotomy a i with ha | rfl | ha
 ·rw [GU hi ha]
  rcases Nat.lt_trichotomy b i with hb' | rfl | hb'
  ·rw [GU hi hb']; exact h a b hab (by omega)
  ·rw [IT hi]; exact h1 a ha
  ·obtain ⟨c, rfl⟩ : ∃ c, b = c + 1 := ⟨b - 1, by omega⟩
   rw [GF hi (by omega)]; exact h a c (by omega) (by omega)
 ·obtain ⟨c, rfl⟩ : ∃ c, b = c + 1 := ⟨b - 1, by omega⟩
  rw [IT hi, GF hi (by omega)]; exact h2 c (by omega) (by omega)
 ·obtain ⟨c, rfl⟩ : ∃ c, b = c + 1 := ⟨b - 1, by omega⟩
  obtain ⟨d, rfl⟩ : ∃ d, a = d + 1 := ⟨a - 1, by omega⟩
  rw [GF hi (by omega), GF hi (by omega)]; exact h d c (by omega) (by omega)
theorem AB.lo_gt {l : List Obj} (h : AB l) {id : Int} (hn : CJ l id = false) : ∀ j, lo l id ≤ j → j < l.length → id < (obj l j).id := by
 intro j hj hjl
 have h1 := h.lo_ge j hj hjl
 rcases Nat.lt_or_ge (lo l id) j with h2 | h2
 ·have a := h.lo_ge (id := id) (lo l id) (Nat.le_refl _) (by omega)
  have b := h (lo l id) j h2 hjl
  omega
 ·have e : j = lo l id := by omega
  subst e
  have : ¬ (obj l (lo l id)).id = id := by
   unfold CJ at hn
   intro e
   simp [hjl, e] at hn
  omega
theorem AB.join {l : List Obj} (h : AB l) (o : Obj) : AB (Fo l o) := by
 unfold Fo
 split
 ·exact h
 ·rename_i hn
  exact Sy h (OE _ _) (fun j hj => h.lo_lt j hj) (h.lo_gt (by simpa using hn))
theorem OK (l : List Obj) (o : Obj) : (Fo l o).length ≤ l.length + 1 := by
 unfold Fo
 split
 ·omega
 ·rw [CE (OE _ _)]; omega
def Ap (l more : List Obj) : Nat → List Obj
 | 0 => l
 | k + 1 => Fo (Ap l more k) (obj more k)
def BO (l more : List Obj) (k : Nat) : Int := GA (Ap l more k) (obj more k)
theorem Gk {l : List Obj} (h : AB l) (more : List Obj) (k : Nat) : AB (Ap l more k) := by
 induction k with
 | zero => exact h
 | succ k ih => exact ih.join _
theorem EU (l more : List Obj) (k : Nat) : (Ap l more k).length ≤ l.length + k := by
 induction k with
 | zero => exact Nat.le_refl _
 | succ k ih => have := OK (Ap l more k) (obj more k); show (Fo _ _).length ≤ _; omega
def BZ (l more : List Obj) : Int := if Ao (BO l more) more.length = 0 then Af (Ap l more more.length) else Ao (BO l more) more.length
def Cg (l more : List Obj) : List Obj := if BZ l more = 0 then Ap l more more.length else []
def Dz (l more : List Obj) : Int :=
 if Af l ≠ 0 then Af l else if 12 < more.length then 2 else if Ao (fun k => Aw (obj more k)) more.length ≠ 0 then Ao (fun k => Aw (obj more k)) more.length else BZ l more
def Cz (l more : List Obj) : List Obj := if Dz l more = 0 then Ap l more more.length else []
end Go.Proofs.YtjdgpgfiomnjkaaGreatDoor
namespace Go.Proofs.YtjdgpgfiomnjkaaGreatDoor
open Go.RowKit
theorem RF (l more : List Obj) (hr : AB l) (hl : l.length ≤ 500) (hm : more.length ≤ 400) (w0 : World) (J : Nat) (hJ : w0.heap.size ≤ J) :
  XP 143 #[.pointer (some ⟨J, 0, none⟩)] more w0 (fun k x => GL w0.heap.size J x (Ap l more k) ∧ Below w0.heap.size w0 x) (BO l more) where
 enter := fun _ _ => rfl
 below := fun k x h => h.2
 next := fun k x y h hb => ⟨h.1.below hb, Aj h.2 hb⟩
 step := fun k x lv S hk hs hI ho => by
  have hj := VZ hI.1 (Gk hr more k) (obj more k) lv S ho (by have := EU l more k; omega) hJ
  refine hj.mono ?_
  rintro e w' ⟨rfl, h1, h2⟩
  have hb : Below w0.heap.size w0 w' := hI.2.trans h2
  exact ⟨rfl, hb, fun _ => ⟨h1, hb⟩⟩
theorem Rl {B : Nat} {w1 : World} {v : Value} {l : List Obj} (h : Fd B w1 v l) : GL B w1.heap.size (w1.alloc (.cells #[v] 178)) l := by
 obtain ⟨S, hS, hge⟩ := h
 obtain ⟨lvs, h1, h2, h3⟩ := id hS
 exact ⟨v, S, hS.below bal, fun b hb => ⟨fun e => by have := (h1 b hb).1; omega, hge b hb⟩, fun e => by have := (h2.lt _ e).2; omega, heap_alloc_new w1 _⟩
def Jc (w w' : World) (e : Ending) (l : List Obj) (c : Int) : Prop := ∃ v, e = .returned (.tuple #[v, .int .i64 c]) ∧ Ag (fun b => w.heap.size ≤ b) w' v l ∧ Below w.heap.size w w'
theorem Jc.e {w w' : World} {e : Ending} {l : List Obj} {c : Int} (h : Jc w w' e l c) : KB w w' e l c := let ⟨v, h1, h2, h3⟩ := h; ⟨v, h1, h2.weaken fun _ _ => trivial, h3⟩
theorem Oz (l more : List Obj) (lv mv : Value) (S S' : Nat → Prop) (w : World) (h : Ag S w lv l) (hm : Ag S' w mv more) (hr : AB l) (hl : l.length ≤ 500) (hml : more.length ≤ 400) :
  Calls Tryz.prog 82 #[lv, mv] w fun e w' => Jc w w' e (Cg l more) (BZ l more) := by
 have hmf : ∀ (fn : Fn) (first cap : Array Value) (w : World), (Instr.makeFunc fn first cap).run Tryz.prog w = .ok (.func fn first cap) w := fun _ _ _ _ => rfl
 have Hown := zh (GE l lv S w h)
 have HE := zh (fun J (hJ : w.heap.size ≤ J) x (hx : GL w.heap.size J x l ∧ Below w.heap.size w x) => Ma (RF l more hr hl hml w J hJ) mv S' hm hx)
 have HC := zh (fun v x (hx : Ag (fun b => w.heap.size ≤ b) x v (Ap l more more.length)) => Er (Ap l more more.length) v _ x hx)
 have HwE := zh (show BZ l more = if Ao (BO l more) more.length = 0 then Af (Ap l more more.length) else Ao (BO l more) more.length from rfl)
 have HwL := zh (show Cg l more = if BZ l more = 0 then Ap l more more.length else [] from rfl)
 have hjl := EU l more more.length
 have HJl := zh (show (Ap l more more.length).length * 56 ≤ 140737488351232 by omega)
 obtain ⟨la, lc, rfl⟩ := h.vshape
 obtain ⟨ma, mc, rfl⟩ := hm.vshape
 clear h hm hjl
 generalize Ap l more more.length = jl at *
 generalize Ao (BO l more) more.length = se at *
 have h3 : (se = 0 ∧ Af jl = 0) ∨ (se = 0 ∧ Af jl ≠ 0) ∨ se ≠ 0 := by
  by_cases a : se = 0
  ·by_cases b : Af jl = 0
   ·exact .inl ⟨a, b⟩
   ·exact .inr (.inl ⟨a, b⟩)
  ·exact .inr (.inr a)
 rcases h3 with ⟨hs, hc⟩ | ⟨hs, hc⟩ | hs
 case' inl =>
  have hq : (se == 0) = true := by simpa using hs
  have hq2 : (Af jl != 0) = false := by simpa using hc
  rw [if_pos hs] at HwE
  have Hs := zh hs
  rw [HwL.out, HwE.out, if_pos hc, hc]
  clear hs hc
 case' inr.inl =>
  have hq : (se == 0) = true := by simpa using hs
  have hq2 : (Af jl != 0) = true := by simpa using hc
  rw [if_pos hs] at HwE
  have Hs := zh hs
  rw [HwL.out, HwE.out, if_neg hc]
  clear hs hc
 case' inr.inr =>
  have hq : (se == 0) = false := by simpa using hs
  have hq2 : (se != 0) = true := by simpa using hs
  rw [if_neg hs] at HwE
  rw [HwL.out, HwE.out, if_neg hs]
  clear hs
 all_goals
  go_enter Tryz.func82, Tryz.ntmps82
  go_wp2_with fail
  refine Hown.out.mono ?_
  rintro e w1 ⟨v1, rfl, hg1, hb1⟩
  obtain ⟨va, vc, rfl⟩ := hg1.gath.shape
  have hJ := Rl hg1
  have hb2 : Below w.heap.size w (w1.alloc (.cells #[.slice va l.length vc] 178)) := Aj hb1 bal
  have Hea := zh (HE.out w1.heap.size hb1.size _ ⟨hJ, hb2⟩)
  clear hJ hb2 hg1 hb1
  go_wp2_with fail
  refine Hea.out.mono ?_
  rintro e w3 ⟨rfl, hb3, hI3⟩
 ·have Hb3 := zh hb3
  clear hI3
  go_wp2_with fail
  go_ret2
  exact ⟨_, rfl, Ag.nil _ _ _ _ (by omega), Hb3.out⟩
 ·obtain ⟨hJ3, hB3⟩ := hI3 Hs.out
  obtain ⟨v3, S3, hG3, hS3, _, hc3⟩ := hJ3
  obtain ⟨a3, c3, rfl⟩ := hG3.gath.shape
  have hst := Fd.store ⟨S3, hG3, fun b hb => (hS3 b hb).2⟩ HJl.out
  have j0 := Aa (j := 0) hc3 rfl
  have Hck := zh (HC.out _ _ hst)
  go_wp2_with fail
  refine Hck.out.mono ?_
  rintro e w4 ⟨rfl, hb4⟩
  have j4 := Aa (j := 0) ((hb4.block _ (lt_of_block hc3)).trans hc3) rfl
  have Hend := zh (And.intro (hst.below hb4) (Aj hB3 hb4))
  have Hx := zh (Aj hB3 hb4)
  go_wp2_with fail
  go_ret2
  exact ⟨_, rfl, Ag.nil _ _ _ _ (by omega), Hend.out.2⟩
 ·obtain ⟨hJ3, hB3⟩ := hI3 Hs.out
  obtain ⟨v3, S3, hG3, hS3, _, hc3⟩ := hJ3
  obtain ⟨a3, c3, rfl⟩ := hG3.gath.shape
  have hst := Fd.store ⟨S3, hG3, fun b hb => (hS3 b hb).2⟩ HJl.out
  have j0 := Aa (j := 0) hc3 rfl
  have Hck := zh (HC.out _ _ hst)
  go_wp2_with fail
  refine Hck.out.mono ?_
  rintro e w4 ⟨rfl, hb4⟩
  have j4 := Aa (j := 0) ((hb4.block _ (lt_of_block hc3)).trans hc3) rfl
  have Hend := zh (And.intro (hst.below hb4) (Aj hB3 hb4))
  go_wp2_with fail
  go_ret2
  exact ⟨_, rfl, Hend.out.1, Hend.out.2⟩
def EB (more : List Obj) : Int := Ao (fun k => Aw (obj more k)) more.length
theorem Lt (more : List Obj) (w0 : World) : XP 67 #[] more w0 (fun _ x => Below w0.heap.size w0 x) (fun k => Aw (obj more k)) where
 enter := fun _ _ => rfl
 below := fun k x h => h
 next := fun k x y h hb => Aj h hb
 step := fun k x lv S hk hs hI ho => by
  refine (KN (obj more k) lv S x ho).mono ?_
  rintro e w' ⟨rfl, h2⟩
  exact ⟨rfl, Aj hI h2, fun _ => Aj hI h2⟩
theorem Vg (l more : List Obj) (lv mv : Value) (S S' : Nat → Prop) (w : World) (h : Ag S w lv l) (hm : Ag S' w mv more) :
  Calls Tryz.prog 24 #[lv, mv] w fun e w' => Jc w w' e (Cz l more) (Dz l more) := by
 have HC := zh (fun x (hx : Below w.heap.size w x) => Er l lv _ x (h.below hx))
 have HE := zh (fun x (hx : Below w.heap.size w x) => Ma (Lt more w) mv S' hm hx)
 have HW := zh (fun (hr : AB l) hl hml x (hx : Below w.heap.size w x) => Oz l more lv mv S S' x (h.below hx) (hm.below hx) hr hl hml)
 have HwE := zh (show Dz l more = if Af l ≠ 0 then Af l else if 12 < more.length then 2 else if EB more ≠ 0 then EB more else BZ l more from rfl)
 have HwL := zh (show Cz l more = if Dz l more = 0 then Ap l more more.length else [] from rfl)
 have HwL2 := zh (show Cg l more = if BZ l more = 0 then Ap l more more.length else [] from rfl)
 obtain ⟨la, lc, rfl⟩ := h.vshape
 obtain ⟨ma, mc, rfl⟩ := hm.vshape
 have Hz := zh (@BR l)
 have Hri := zh (@AR l)
 have hee : Ao (fun k => Aw (obj more k)) more.length = EB more := rfl
 rw [hee] at HE
 have hm63 : more.length * 56 ≤ 140737488351232 := by
  obtain ⟨_, ⟨_, _, _, _, _, h3, _⟩, _⟩ := hm
  exact h3
 clear h hm hee
 generalize EB more = ee at *
 by_cases hc : Af l = 0
 ·have hq : (Af l == 0) = true := by simpa using hc
  have hlen := (Hz.out hc).1
  have HW2 := zh (fun hml => HW.out (Hri.out hc) (by omega) hml)
  rw [hc] at HC
  by_cases h12 : 12 < more.length
  ·have hd : decide ((12 : Int) < (more.length : Int)) = true := by simp; omega
   have e1 : Dz l more = 2 := by rw [HwE.out]; simp [hc, h12]
   have e2 : Cz l more = [] := by rw [HwL.out, e1]; rfl
   rw [e1, e2]
   clear e1 e2
   clear hc hq
   go_enter Tryz.func24, Tryz.ntmps24
   go_wp2_with fail
   refine (HC.out _ (Below.refl _ _)).mono ?_
   rintro e w1 ⟨rfl, hb1⟩
   go_wp2_with fail
   go_ret2
   exact ⟨_, rfl, Ag.nil _ _ _ _ (by omega), hb1⟩
  ·have hd : decide ((12 : Int) < (more.length : Int)) = false := by simp; omega
   have HW3 := zh (HW2.out (by omega))
   by_cases he : ee = 0
   ·have e1 : Dz l more = BZ l more := by rw [HwE.out]; simp [hc, h12, he]
    have e2 : Cz l more = Cg l more := by rw [HwL.out, HwL2.out, e1]
    rw [e1, e2]
    clear e1 e2
    rw [he] at HE
    clear hc hq h12 he
    go_enter Tryz.func24, Tryz.ntmps24
    go_wp2_with fail
    refine (HC.out _ (Below.refl _ _)).mono ?_
    rintro e w1 ⟨rfl, hb1⟩
    go_wp2_with fail
    refine (HE.out _ hb1).mono ?_
    rintro e w2 ⟨rfl, hb2, _⟩
    go_wp2_with fail
    refine (HW3.out _ hb2).mono ?_
    rintro e w3 ⟨v3, rfl, hv3, hb3⟩
    obtain ⟨a3, c3, rfl⟩ := hv3.vshape
    have Hend := zh (And.intro (hv3.weaken (S' := fun b => w.heap.size ≤ b) fun b hb => Nat.le_trans hb2.size hb) (Aj hb2 hb3))
    clear hv3 hb3 hb2
    go_wp2_with fail
    go_ret2
    exact ⟨_, rfl, Hend.out.1, Hend.out.2⟩
   ·have hq3 : (ee == 0) = false := by simpa using he
    have hq4 : (ee != 0) = true := by simpa using he
    have e1 : Dz l more = ee := by rw [HwE.out]; simp [hc, h12, he]
    have e2 : Cz l more = [] := by rw [HwL.out, e1, if_neg he]
    rw [e1, e2]
    clear e1 e2
    clear hc hq h12 he
    go_enter Tryz.func24, Tryz.ntmps24
    go_wp2_with fail
    refine (HC.out _ (Below.refl _ _)).mono ?_
    rintro e w1 ⟨rfl, hb1⟩
    go_wp2_with fail
    refine (HE.out _ hb1).mono ?_
    rintro e w2 ⟨rfl, hb2, _⟩
    go_wp2_with fail
    go_ret2
    exact ⟨_, rfl, Ag.nil _ _ _ _ (by omega), hb2⟩
 ·have hq : (Af l == 0) = false := by simpa using hc
  have hq2 : (Af l != 0) = true := by simpa using hc
  rw [HwL.out, HwE.out, if_pos hc, if_neg hc]
  generalize Af l = cl at *
  go_enter Tryz.func24, Tryz.ntmps24
  go_wp2_with fail
  refine (HC.out _ (Below.refl _ _)).mono ?_
  rintro e w1 ⟨rfl, hb1⟩
  go_wp2_with fail
  go_ret2
  exact ⟨_, rfl, Ag.nil _ _ _ _ (by omega), hb1⟩
end Go.Proofs.YtjdgpgfiomnjkaaGreatDoor
namespace Go.Proofs.YtjdgpgfiomnjkaaGreatDoor
theorem FR {l : List Obj} {i : Nat} (h : i < l.length) : obj l i ∈ l := Jv h
theorem Ia {l : List Obj} {x : Obj} (h : x ∈ l) : ∃ i, i < l.length ∧ obj l i = x := by
 obtain ⟨i, hi, rfl⟩ := List.getElem_of_mem h
 exact ⟨i, hi, Di hi⟩
theorem WF {l : List Obj} {i : Nat} {o x : Obj} : x ∈ JE l i o ↔ x = o ∨ x ∈ l := by
 unfold JE
 rw [List.mem_append, List.mem_cons]
 constructor
 ·rintro (h | h | h)
  ·exact .inr (List.mem_of_mem_take h)
  ·exact .inl h
  ·exact .inr (List.mem_of_mem_drop h)
 ·rintro (h | h)
  ·exact .inr (.inl h)
  ·rw [← List.take_append_drop i l, List.mem_append] at h
   rcases h with h | h
   ·exact .inl h
   ·exact .inr (.inr h)
theorem KR {l : List Obj} {id : Int} (h : CJ l id = true) : lo l id < l.length ∧ (obj l (lo l id)).id = id := by
 unfold CJ at h; simpa using h
theorem AB.isAt_mem {l : List Obj} (h : AB l) {x : Obj} (hx : x ∈ l) : CJ l x.id = true ∧ obj l (lo l x.id) = x := by
 obtain ⟨i, hi, rfl⟩ := Ia hx
 exact ⟨h.isAt_self hi, by rw [h.lo_self hi]⟩
theorem Mz {l : List Obj} {o : Obj} : GA l o = 0 ↔ (CJ l o.id = true → obj l (lo l o.id) = o) := by
 unfold GA
 by_cases h : CJ l o.id = true ∧ Bu (obj l (lo l o.id)) o = false
 ·rw [if_pos h]
  constructor
  ·intro e; cases e
  ·intro e
   have := e h.1
   have h2 := h.2
   rw [this] at h2
   rw [(Du o o).2 rfl] at h2; cases h2
 ·rw [if_neg h]
  refine ⟨fun _ hat => ?_, fun _ => rfl⟩
  cases hs : Bu (obj l (lo l o.id)) o
  ·exact absurd ⟨hat, hs⟩ h
  ·exact (Du _ _).1 hs
theorem Gc {l : List Obj} {n : Nat} (h : n < l.length) : l.take (n + 1) = l.take n ++ [obj l n] := by
 rw [List.take_succ_eq_append_getElem h, Di h]
theorem FH {l more : List Obj} : ∀ {n : Nat}, n ≤ more.length → Ao (BO l more) n = 0 → ∀ x, x ∈ Ap l more n ↔ x ∈ l ∨ x ∈ more.take n
 | 0, _, _, x => by simp [Ap]
 | n + 1, hn, h, x => by
  have h0 : BO l more n = 0 := Be h n (by omega)
  have hs : Ao (BO l more) n = 0 := AW fun k hk => Be h k (by omega)
  have ih := FH (by omega) hs
  rw [Gc hn, List.mem_append, List.mem_singleton]
  show x ∈ Fo (Ap l more n) (obj more n) ↔ _
  unfold Fo
  by_cases hat : CJ (Ap l more n) (obj more n).id = true
  ·rw [if_pos hat, ih x]
   have ho := (Mz.1 h0) hat
   have hm : obj more n ∈ Ap l more n := by rw [← ho]; exact FR (KR hat).1
   have hm' := (ih _).1 hm
   constructor
   ·rintro (a | a)
    ·exact .inl a
    ·exact .inr (.inl a)
   ·rintro (a | a | a)
    ·exact .inl a
    ·exact .inr a
    ·rw [a]; exact hm'
  ·rw [if_neg hat, WF, ih x]
   constructor
   ·rintro (a | a | a)
    ·exact .inr (.inr a)
    ·exact .inl a
    ·exact .inr (.inl a)
   ·rintro (a | a | a)
    ·exact .inr (.inl a)
    ·exact .inr (.inr a)
    ·exact .inl a
def Yk (l more : List Obj) : Prop := ∀ x y, (x ∈ l ∨ x ∈ more) → (y ∈ l ∨ y ∈ more) → x.id = y.id → x = y
theorem PS {l more : List Obj} (hr : AB l) : Ao (BO l more) more.length = 0 ↔ Yk l more := by
 constructor
 ·intro h x y hx hy e
  have hm := FH (Nat.le_refl _) h
  have hJ := Gk hr more more.length
  rw [List.take_length] at hm
  have h1 := hJ.isAt_mem ((hm x).2 hx)
  have h2 := hJ.isAt_mem ((hm y).2 hy)
  rw [← h1.2, e, h2.2]
 ·intro hc
  have : ∀ n, n ≤ more.length → Ao (BO l more) n = 0 := by
   intro n
   induction n with
   | zero => intro _; rfl
   | succ n ih =>
    intro hn
    have hs := ih (by omega)
    refine AC hs (Mz.2 fun hat => ?_)
    have hm := FH (Nat.le_of_succ_le hn) hs
    have h1 := KR hat
    have h2 := (hm _).1 (FR h1.1)
    exact hc _ _ (h2.imp id List.mem_of_mem_take) (.inr (FR hn)) h1.2
  exact this _ (Nat.le_refl _)
theorem AB.pairwise {l : List Obj} (h : AB l) : l.Pairwise (fun x y => x.id < y.id) := by
 rw [List.pairwise_iff_getElem]
 intro i j hi hj hij
 have := h i j hij hj
 rwa [Di hi, Di hj] at this
theorem Nd : ∀ {a b : List Obj}, a.Pairwise (fun x y => x.id < y.id) → b.Pairwise (fun x y => x.id < y.id) → (∀ x, x ∈ a ↔ x ∈ b) → a = b
 | [], [], _, _, _ => rfl
 | [], y :: b, _, _, h => absurd ((h y).2 List.mem_cons_self) (by simp)
 | x :: a, [], _, _, h => absurd ((h x).1 List.mem_cons_self) (by simp)
 | x :: a, y :: b, ha, hb, h => by
  rw [List.pairwise_cons] at ha hb
  have e : x = y := by
   rcases List.mem_cons.1 ((h x).1 List.mem_cons_self) with e | h1
   ·exact e
   ·rcases List.mem_cons.1 ((h y).2 List.mem_cons_self) with e | h2
    ·exact e.symm
    ·have := hb.1 _ h1; have := ha.1 _ h2; omega
  subst e
  rw [Nd ha.2 hb.2 fun z => ⟨fun hz => ?_, fun hz => ?_⟩]
  ·rcases List.mem_cons.1 ((h z).1 (List.mem_cons_of_mem _ hz)) with e | h1
   ·subst e; have := ha.1 _ hz; omega
   ·exact h1
  ·rcases List.mem_cons.1 ((h z).2 (List.mem_cons_of_mem _ hz)) with e | h1
   ·subst e; have := hb.1 _ hz; omega
   ·exact h1
theorem AB.ext {a b : List Obj} (ha : AB a) (hb : AB b) (h : ∀ x, x ∈ a ↔ x ∈ b) : a = b := Nd ha.pairwise hb.pairwise h
structure XA (l more J : List Obj) : Prop where
 left : Af l = 0
 many : more.length ≤ 12
 each : ∀ o ∈ more, Aw o = 0
 cons : Yk l more
 whole : Af J = 0
 mem : ∀ x, x ∈ J ↔ x ∈ l ∨ x ∈ more
theorem add_zero {l more : List Obj} : Dz l more = 0 ↔ XA l more (Ap l more more.length) := by
 unfold Dz
 by_cases h1 : Af l = 0
 ·rw [if_neg (by simpa using h1)]
  by_cases h2 : 12 < more.length
  ·rw [if_pos h2]; exact ⟨fun e => (by cases e), fun e => (by have := e.many; omega)⟩
  ·rw [if_neg h2]
   have hr := AR h1
   by_cases h3 : Ao (fun k => Aw (obj more k)) more.length = 0
   ·rw [if_neg (by simpa using h3)]
    unfold BZ
    have he : ∀ o ∈ more, Aw o = 0 := fun o ho => by
     obtain ⟨i, hi, rfl⟩ := Ia ho
     exact Be h3 i hi
    by_cases h4 : Ao (BO l more) more.length = 0
    ·rw [if_pos h4]
     refine ⟨fun e => ⟨h1, by omega, he, (PS hr).1 h4, e, fun x => ?_⟩, fun e => e.whole⟩
     have := FH (Nat.le_refl _) h4 x
     rwa [List.take_length] at this
    ·rw [if_neg h4]; exact ⟨fun e => absurd e h4, fun e => absurd ((PS hr).2 e.cons) h4⟩
   ·rw [if_pos (by simpa using h3)]
    refine ⟨fun e => absurd e h3, fun e => absurd (AW fun k hk => e.each _ (FR hk)) h3⟩
 ·rw [if_pos (by simpa using h1)]; exact ⟨fun e => absurd e h1, fun e => absurd e.left h1⟩
theorem Vq {l more : List Obj} (h : Dz l more = 0) : XA l more (Cz l more) := by
 have := add_zero.1 h
 unfold Cz; rw [if_pos h]; exact this
end Go.Proofs.YtjdgpgfiomnjkaaGreatDoor
