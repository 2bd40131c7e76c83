
/- LineB: walks of update.Line and update.Text. -/
import Derived.Test.YtjdgpgfiomnjkaaGreatDoorQ23
import Derived.Test.YtjdgpgfiomnjkaaGreatDoorQ19
import Derived.Test.YtjdgpgfiomnjkaaGreatDoorQ11
import Derived.Shelf.SlSortCmp.NoneTotal
namespace Go.Proofs.YtjdgpgfiomnjkaaGreatDoor
open Go.RowKit
set_option linter.unusedVariables false
set_option linter.unusedSimpArgs false
set_option linter.unusedSectionVars false
variable [Ghost]
set_option maxHeartbeats 1000000 in
theorem line1_any (x y : Mv) (W : World) :
  Calls Tryz.prog 213 #[.agg #[.string x.name, .int .i64 x.old, .int .i64 x.new], .agg #[.string y.name, .int .i64 y.old, .int .i64 y.new]] W
   fun e w' => e = .returned (.int .i64 (cmpS x.name y.name)) ∧ ∃ q os', w' = Go.Sort.grow (W.drewN q) os' := by
 have hcon := fun W' => Tryz.strings_Compare x.name y.name W'
 unfold cmpS
 generalize Lib.compareBytes x.name.data.toList y.name.data.toList = r at hcon ⊢
 go_enter Tryz.func213, Tryz.ntmps213
 go_wp2_with fail
 refine (hcon _).mono ?_
 rintro e w' ⟨rfl, rfl⟩
 go_wp2_with fail
 go_ret
 exact ⟨rfl, 0, _, by rw [Go.Sort.alloc_eq_grow, Go.Sort.alloc_eq_grow, Go.Sort.grow_grow]; rfl⟩
theorem blk_below' {w w' : World} {D : Nat} {o : Go.Obj} (h : w.heap[D]? = some o) (hb : Below w.heap.size w w') : w'.heap[D]? = some o := (hb.block _ (lt_of_block h)).trans h
theorem mvs_lt {S : Nat → Prop} {w : World} {v : Value} {l : List Mv} (h : MvsV S w v l) : MvsV (fun b => S b ∧ b < w.heap.size) w v l := by
 obtain ⟨⟨a, cap, hv, h1, h2, h3, h4⟩, h5⟩ := h
 refine ⟨⟨a, cap, hv, h1, h2, h3, fun hn => ?_⟩, h5⟩
 obtain ⟨b, off, ha, hS, hc⟩ := h4 hn
 exact ⟨b, off, ha, ⟨⟨hS.1, World.block_lt_of_cell? w _ (hc 0 hn 0 _ rfl)⟩, hS.2⟩, hc⟩
theorem mvs_upd {T S : Nat → Prop} {w w' : World} {v : Value} {l : List Mv} (h : MvsV S w v l) (hu : Upd T w w') (hT : ∀ b, S b → ¬ T b) : MvsV S w' v l := by
 have := (mvs_lt h).same (w' := w') fun b hb => hu.block b hb.2 (hT b hb.1)
 exact this.weaken fun b hb => hb.1
theorem line_size {d : List Mv} (h : MvsOk d) : ∀ k, k ≤ d.length → (lineL (d.take k) ByteArray.empty).size ≤ 39 * k
 | 0, _ => by show ByteArray.size ByteArray.empty ≤ _; simp
 | k + 1, hk => by
  have ih := line_size h k (by omega)
  have hm := mv_mem (l := d) (i := k) (by omega)
  have := textOne_size (name_size (h.name _ hm)) (h.old _ hm) (h.new _ hm)
  rw [List.take_succ_eq_append_getElem (by omega), lineL_snoc, ByteArray.size_append, one_same]
  rw [mv_lt (by omega)] at this
  omega
theorem cmpLaysL (blk off size : Nat) (w : World) : Go.Proofs.CmpLays Tryz.prog 213 #[] mvCells 3 (fun a b => cmpS a.name b.name) blk off size w :=
 fun _ _ _ _ x y => line1_any x y _
set_option maxRecDepth 100000 in
theorem sortL_any {B : Nat} {w : World} {v : Value} {l : List Mv} (h : OwnU B w v l) (h0 : l.length ≠ 0) (hl : l.length ≤ 1000) (hB : B ≤ w.heap.size) :
  Calls Tryz.prog 126 #[v, .func (.func 213) #[] #[]] w
   fun e w' => e = .returned (.tuple #[]) ∧ ∃ d : List Mv, d.Perm l ∧ (d.Pairwise fun a b => strLt b.name a.name = false) ∧ MvsV (fun b => B ≤ b) w' v d ∧ Below B w w' := by
 obtain ⟨g, cap, rfl⟩ : ∃ g cap, v = .slice (some ⟨g, 0, none⟩) l.length cap := by
  rcases h.1.2 with ⟨rfl, hn⟩ | ⟨g, cap, cur, rfl, _⟩
  ·omega
  ·exact ⟨g, cap, rfl⟩
 have eg : ∀ args w, (callFunc 213 args).run Tryz.prog w = .ok (.enter 213 args) w := fun _ _ => rfl
 have hb := h.block (g := g) rfl
 have hcon := Go.Proofs.AnyQ.slices_SortFunc Tryz.sortU 3 Tryz.isAgg107 Tryz.sizeOf107 mvCells (fun _ => rfl) (fun x => one_mv x) (fun a b => cmpS a.name b.name) swoN 213 #[] g 0 cap l.toArray w eg (cmpLaysL _ _ _ _) (own_holds h) hb.2 (by simp; omega)
 refine (show Calls Tryz.prog 126 #[.slice (some ⟨g, 0, none⟩) l.length cap, .func (.func 213) #[] #[]] w _ from hcon).mono ?_
 rintro e w' ⟨rfl, d, m, os, hp, hs, rfl⟩
 obtain ⟨e1, e2, e3⟩ := sort_lists hp hs
 refine ⟨rfl, d.toList, e2, e3, own_sorted h (by omega) e1 (fun u hu => h.2 u (e2.mem_iff.1 hu)), (sort_upd w g m d os).below hB (fun b e => by rw [e]; exact hb.1)⟩
set_option maxRecDepth 100000 in
set_option maxHeartbeats 2000000 in
theorem linePut_any (J bk : Nat) (s x y z : ByteArray) (w : World) (hJ : w.heap[J]? = some (.cells #[.string s] 9 (0, 0))) (hk : w.heap[bk]? = some (.cells #[.string x, .string y, .string z] 9 (0, 0)))
  (hxs : x.size ≤ 12) (hys : y.size ≤ 12) (hzs : z.size ≤ 12) (hss : s.size ≤ 1000) :
  Calls Tryz.prog 214 #[.slice (some ⟨bk, 0, none⟩) 3 3, .pointer (some ⟨J, 0, none⟩)] w fun e w' => e = .returned (.tuple #[]) ∧
   w'.heap[J]? = some (.cells #[.string (s ++ (⟨(Lib.join [x.data.toList, y.data.toList, z.data.toList] [32]).toArray⟩ ++ semiB))] 9 (0, 0)) ∧ ∃ x1, Below w.heap.size w x1 ∧ Upd (fun b => b = J) x1 w' := by
 have hJs := lt_of_block hJ
 have hks := lt_of_block hk
 obtain ⟨R, hR, hR1, _⟩ := cls_plain w
 have hRb := hR.below
 have hRn := hR.next
 have HJ := Lib.hid (fun q (hq : In R q) => show q.heap[J]? = some (.cells #[.string s] 9 (0, 0)) from (hq |> hRb q).block _ hJs |>.trans hJ)
 have cJ := fun q (hq : In R q) => block_cell (j := 0) (HJ.out q hq) rfl
 have hlen : (Lib.join ([x, y, z].map (·.data.toList)) (⟨#[32]⟩ : ByteArray).data.toList).length ≤ 140737488355328 := by
  simp [Lib.join_cons, Lib.joinTail]
  have e1 : x.data.size = x.size := rfl
  have e2 : y.data.size = y.size := rfl
  have e3 : z.data.size = z.size := rfl
  omega
 have HJn := Lib.hid (fun q (hq : In R q) => Tryz.strings_Join bk 0 3 [x, y, z] ⟨#[32]⟩ q (fun j v hv => by
  rw [Nat.zero_add]
  refine below_cell (hRb q hq) (block_cell (j := j) hk ?_)
  match j, hv with
  | 0, hv => cases hv; rfl
  | 1, hv => cases hv; rfl
  | 2, hv => cases hv; rfl) (by have := (hRb q hq).size; omega) (by simp) (by simp) hlen)
 have e0 : (⟨(Lib.join ([x, y, z].map (·.data.toList)) (⟨#[32]⟩ : ByteArray).data.toList).toArray⟩ : ByteArray) = ⟨(Lib.join [x.data.toList, y.data.toList, z.data.toList] [32]).toArray⟩ := rfl
 rw [e0] at HJn
 have hjs : (⟨(Lib.join [x.data.toList, y.data.toList, z.data.toList] [32]).toArray⟩ : ByteArray).size ≤ 1000 := by
  show (Lib.join [x.data.toList, y.data.toList, z.data.toList] [32]).toArray.size ≤ 1000
  simp [Lib.join_cons, Lib.joinTail]
  have e1 : x.data.size = x.size := rfl
  have e2 : y.data.size = y.size := rfl
  have e3 : z.data.size = z.size := rfl
  omega
 generalize (⟨(Lib.join [x.data.toList, y.data.toList, z.data.toList] [32]).toArray⟩ : ByteArray) = jn at HJn hjs ⊢
 have n1 : ¬ 9223372036854775807 < jn.size + 1 := by omega
 have n2 : ¬ 9223372036854775807 < s.size + (jn.size + 1) := by omega
 clear e0 hlen hk hxs hys hzs hss hjs
 go_enter Tryz.func214, Tryz.ntmps214
 go_wp2_with fail
 have hRd := hR.drew _ hR1
 refine any_start (by kernel_rfl) rfl ?_
 generalize w.drew = x0 at *
 refine any_take 1 (.slice (some ⟨bk, 0, none⟩) 3 3) rfl (by kernel_rfl) (by kernel_rfl) (by kernel_rfl) (fun _ _ _ h => h) (by rfl) (fun w => ?_) ?_
 ·go_simp
 simp only [Act.put, List.setIfInBounds_toArray, List.set_cons_zero, List.set_cons_succ]
 have c0 := cJ _ hRd
 have hj := Lib.hid (HJn.out _ hRd)
 refine any_two 0 2 (by kernel_rfl) (op_do rfl (by rfl) (fun K hK => ?_)) (op_do rfl (by rfl) (fun K hK => ?_))
 ·go_wp2_with fail
  refine any_one 2 (by kernel_rfl) rfl (by rfl) (fun K hK => ?_)
  go_wp2_with fail
  refine hj.out.mono ?_
  rintro e x1 ⟨rfl, hb⟩
  have hR2 := hRn _ _ hRd hb
  have c1 := cJ _ hR2
  have hblk := HJ.out _ hR2
  have hu : Upd (fun b => b = J) x1 (x1.setCell ⟨J, 0, none⟩ (.string (s ++ (jn ++ semiB)))) := (Upd.refl (fun b => b = J) x1).setCell (p := ⟨J, 0, none⟩) (fun _ => rfl) _
  have HE := Lib.hid (show (x1.setCell ⟨J, 0, none⟩ (.string (s ++ (jn ++ semiB)))).heap[J]? = some (.cells #[.string (s ++ (jn ++ semiB))] 9 (0, 0)) ∧ ∃ y1, Below w.heap.size w y1 ∧ Upd (fun b => b = J) y1 (x1.setCell ⟨J, 0, none⟩ (.string (s ++ (jn ++ semiB)))) from ⟨block_setCell (j := 0) hblk _, x1, hRb _ hR2, hu⟩)
  have f1 := block_free (j := 0) hblk
  clear hu hblk
  unfold semiB at HE
  go_wp2_with fail
  refine any_one 3 (by kernel_rfl) rfl (by rfl) (fun K hK => ?_)
  go_wp2_with fail
  refine any_one 4 (by kernel_rfl) rfl (by rfl) (fun K hK => ?_)
  go_wp2_with fail
  refine any_one 5 (by kernel_rfl) rfl (by rfl) (fun K hK => ?_)
  go_wp2_with fail
  refine any_done (by kernel_rfl) ?_
  go_wp2_with fail
  go_end0
  exact ⟨rfl, HE.out⟩
 ·go_wp2_with fail
  refine hj.out.mono ?_
  rintro e x1 ⟨rfl, hb⟩
  have hR2 := hRn _ _ hRd hb
  have c1 := cJ _ hR2
  have hblk := HJ.out _ hR2
  have hu : Upd (fun b => b = J) x1 (x1.setCell ⟨J, 0, none⟩ (.string (s ++ (jn ++ semiB)))) := (Upd.refl (fun b => b = J) x1).setCell (p := ⟨J, 0, none⟩) (fun _ => rfl) _
  have HE := Lib.hid (show (x1.setCell ⟨J, 0, none⟩ (.string (s ++ (jn ++ semiB)))).heap[J]? = some (.cells #[.string (s ++ (jn ++ semiB))] 9 (0, 0)) ∧ ∃ y1, Below w.heap.size w y1 ∧ Upd (fun b => b = J) y1 (x1.setCell ⟨J, 0, none⟩ (.string (s ++ (jn ++ semiB)))) from ⟨block_setCell (j := 0) hblk _, x1, hRb _ hR2, hu⟩)
  have f1 := block_free (j := 0) hblk
  clear hu hblk
  unfold semiB at HE
  go_wp2_with fail
  refine any_two 0 3 (by kernel_rfl) (op_do rfl (by rfl) (fun K hK => ?_)) (op_do rfl (by rfl) (fun K hK => ?_))
  ·go_wp2_with fail
   refine any_one 3 (by kernel_rfl) rfl (by rfl) (fun K hK => ?_)
   go_wp2_with fail
   refine any_one 4 (by kernel_rfl) rfl (by rfl) (fun K hK => ?_)
   go_wp2_with fail
   refine any_one 5 (by kernel_rfl) rfl (by rfl) (fun K hK => ?_)
   go_wp2_with fail
   refine any_done (by kernel_rfl) ?_
   go_wp2_with fail
   go_end0
   exact ⟨rfl, HE.out⟩
  ·go_wp2_with fail
   refine any_one 0 (by kernel_rfl) rfl (by rfl) (fun K hK => ?_)
   go_wp2_with fail
   refine any_one 4 (by kernel_rfl) rfl (by rfl) (fun K hK => ?_)
   go_wp2_with fail
   refine any_one 5 (by kernel_rfl) rfl (by rfl) (fun K hK => ?_)
   go_wp2_with fail
   refine any_done (by kernel_rfl) ?_
   go_wp2_with fail
   go_end0
   exact ⟨rfl, HE.out⟩
set_option maxRecDepth 100000 in
set_option maxHeartbeats 4000000 in
theorem line_any (l : List Mv) (v : Value) (S : Nat → Prop) (w : World) (h : MvsV S w v l) (hok : MvsOk l) :
  Calls Tryz.prog 157 #[v] w fun e w' => e = .returned (.string (textL l)) ∧ Below w.heap.size w w' := by
 have hmf : ∀ (fn : Fn) (first cap : Array Value) (w : World), (Instr.makeFunc fn first cap).run Tryz.prog w = .ok (.func fn first cap) w := fun _ _ _ _ => rfl
 have HC := Lib.hid (cloneMvs_any l v S w h)
 have Hok := Lib.hid hok
 obtain ⟨⟨a, cap⟩, rfl⟩ := h.shape
 clear h hok
 go_enter Tryz.func157, Tryz.ntmps157
 go_wp2_with fail
 refine HC.out.mono ?_
 rintro e x1 ⟨v1, rfl, hO, hb1⟩
 obtain ⟨a1, c1, rfl⟩ := hO.shape
 have HS := Lib.hid (sortL_any hO (by have := Hok.out.some; omega) (by have := Hok.out.many; omega) hb1.size)
 have HB1 := Lib.hid hb1
 clear hO hb1 HC
 go_wp2_with fail
 refine HS.out.mono ?_
 rintro e x2 ⟨rfl, d, hp, hs, hd, hb2⟩
 have hr := rises_of hs ((Hok.out.perm hp).once)
 have HT := Lib.hid (text_line hp hr (fun u hu => name_nonempty (Hok.out.name u hu)))
 have HU := Lib.hid (Hok.out.perm hp)
 have hlen := hp.length_eq
 obtain ⟨n, hn⟩ : ∃ n, n = l.length := ⟨_, rfl⟩
 rw [← hn] at hd ⊢
 have Hn := Lib.hid (show n = d.length by rw [hn, hlen])
 have hn4 : n ≤ 4 := by rw [hn]; exact Hok.out.many
 have Hd := Lib.hid (mvs_lt hd)
 have HB2 := Lib.hid (HB1.out.trans hb2)
 clear hd hb2 HS hs hp hr hn hlen HB1 Hok
 have hd2 := Hd.out.below ((Below.refl _ _).alloc (Nat.le_refl _) (.cells #[.string ⟨#[]⟩] 9))
 have hJ2 := heap_alloc_new x2 (.cells #[.string ⟨#[]⟩] 9)
 have hB3 : Below w.heap.size w (x2.alloc (.cells #[.string ⟨#[]⟩] 9)) := HB2.out.trans ((Below.refl _ _).alloc HB2.out.size _)
 have HI0 := Lib.hid (And.intro hJ2 (And.intro (hd2.weaken (S' := fun b => b ≠ x2.heap.size) fun b hb e => by have := hb.2; omega) hB3))
 have hJw := Lib.hid HB2.out.size
 clear hd2 hJ2 hB3 Hd
 go_wp2_with fail
 generalize hJJ : x2.heap.size = J at *
 generalize x2.alloc _ = x3 at *
 go_loopw [15] (fun i wr => ∃ k : Nat, k ≤ n ∧ i = .int .i64 k ∧ Hid (wr.heap[J]? = some (.cells #[.string (lineL (d.take k) ByteArray.empty)] 9 (0, 0)) ∧ MvsV (fun b => b ≠ J) wr (.slice a1 n c1) d ∧ Below w.heap.size w wr)) (fun i _ => n - (intOf i).toNat)
 case atStart => exact ⟨0, by omega, rfl, HI0.out⟩
 case round =>
  obtain ⟨k, hk, rfl, HI⟩ := hrel
  clear HI0
  by_cases hlt : k < n
  case neg =>
   obtain rfl : k = n := by omega
   have hJ := HI.out.1
   rw [Hn.out, List.take_length, ← HT.out] at hJ
   have cJ := block_cell (j := 0) hJ rfl
   have HB := Lib.hid HI.out.2.2
   clear hJ
   go_wp2_with fail
   go_ret
   exact ⟨rfl, HB.out⟩
  case pos =>
   have hkd : k < d.length := by have := Hn.out; omega
   have hom := HU.out.old _ (mv_mem hkd)
   have hnm := HU.out.new _ (mv_mem hkd)
   have hns := name_size (HU.out.name _ (mv_mem hkd))
   have hls := line_size HU.out k (by omega)
   have HL := Lib.hid (show lineL (d.take (k + 1)) ByteArray.empty = lineL (d.take k) ByteArray.empty ++ lineOne (mv d k) by rw [List.take_succ_eq_append_getElem hkd, lineL_snoc, mv_lt hkd])
   obtain ⟨a0, n0, cap0, HN0, e0, _, _, _, h4⟩ := HI.out.2.1.open
   cases e0
   obtain ⟨b, off, rfl, hbJ, k0, k1, k2⟩ := h4 (by omega)
   have x0 := k0 k wr hlt (Below.refl _ _)
   have x1 := k1 k wr hlt (Below.refl _ _)
   have x2 := k2 k wr hlt (Below.refl _ _)
   have HO := Lib.hid (show lineOne (mv d k) = ⟨(Lib.join [(mv d k).name.data.toList, (decB (mv d k).old).data.toList, (decB (mv d k).new).data.toList] [32]).toArray⟩ ++ semiB from rfl)
   have hso := dec_size hom.1 (by omega : (mv d k).old < 1000)
   have hsm := dec_size hnm.1 (by omega : (mv d k).new < 1000)
   obtain ⟨o, ho⟩ : ∃ o : Nat, (mv d k).old = o := ⟨(mv d k).old.toNat, by omega⟩
   obtain ⟨m, hm⟩ : ∃ m : Nat, (mv d k).new = m := ⟨(mv d k).new.toNat, by omega⟩
   rw [ho] at x1 HO hom hso
   rw [hm] at x2 HO hnm hsm
   have ho9 : o < 100 := by omega
   have hm9 : m < 100 := by omega
   have hi1 : (0 : Int) ≤ (k : Int) := by omega
   have hi2 : (k : Int) < (n : Int) := by omega
   have HI1 := Lib.hid HI.out
   clear HI k0 k1 k2 h4 HN0 ho hm hom hnm hkd
   generalize lineL (d.take k) ByteArray.empty = s at *
   generalize (mv d k).name = nm at *
   have HD1 := Lib.hid (show decB (o : Int) = ⟨(Lib.decDigits o).toArray⟩ from rfl)
   have HD2 := Lib.hid (show decB (m : Int) = ⟨(Lib.decDigits m).toArray⟩ from rfl)
   have HT1 := Lib.hid (fun x => Tryz.strconv_Itoa_small o ho9 x)
   have HT2 := Lib.hid (fun x => Tryz.strconv_Itoa_small m hm9 x)
   rw [← HD1.out] at HT1
   rw [← HD2.out] at HT2
   generalize decB (o : Int) = so at *
   generalize decB (m : Int) = sm at *
   have hJs := lt_of_block HI1.out.1
   go_wp2_with fail
   obtain ⟨wu, hwu⟩ : ∃ wu, wu = wr.alloc (.cells #[.string nm, .int .i64 (o : Int), .int .i64 (m : Int)] 107) := ⟨_, rfl⟩
   have hub : Below wr.heap.size wr wu := by rw [hwu]; exact (Below.refl _ _).alloc (Nat.le_refl _) _
   have huk : wu.heap[wr.heap.size]? = some (.cells #[.string nm, .int .i64 (o : Int), .int .i64 (m : Int)] 107 (0, 0)) := by rw [hwu]; exact heap_alloc_new wr _
   rw [← hwu]
   clear hwu x0 x1 x2
   have hU : wr.heap.size ≠ J := by omega
   have hJu := blk_below' HI1.out.1 hub
   have hdu := HI1.out.2.1.below hub
   have hBu := HI1.out.2.2.trans (hub.mono HI1.out.2.2.size)
   have HIu := Lib.hid (And.intro hJu (And.intro hdu hBu))
   have Huk := Lib.hid huk
   clear hub huk hJu hdu hBu HI1
   generalize wr.heap.size = U at *
   refine wp_region_held (S := (fun x : World => x.cell? ⟨U, 0, none⟩ = some (.string nm) ∧ x.cell? ⟨U, 1, none⟩ = some (.int .i64 (o : Int)) ∧ x.cell? ⟨U, 2, none⟩ = some (.int .i64 (m : Int)))) (by kernel_rfl) ?_
   change wpAnyH _ _ _ _ _ _ _ _ (World.drew _)
   have hS0 : (fun x : World => x.cell? ⟨U, 0, none⟩ = some (.string nm) ∧ x.cell? ⟨U, 1, none⟩ = some (.int .i64 (o : Int)) ∧ x.cell? ⟨U, 2, none⟩ = some (.int .i64 (m : Int))) wu.drew := ⟨block_cell (j := 0) Huk.out rfl, block_cell (j := 1) Huk.out rfl, block_cell (j := 2) Huk.out rfl⟩
   have HId := Lib.hid (show wu.drew.heap[J]? = some (.cells #[.string s] 9 (0, 0)) ∧ MvsV (fun b => b ≠ J) wu.drew _ d ∧ Below w.heap.size w wu.drew ∧ wu.drew.heap[U]? = some (.cells #[.string nm, .int .i64 (o : Int), .int .i64 (m : Int)] 107 (0, 0)) from ⟨HIu.out.1, HIu.out.2.1.below (Below.refl _ _).drew, HIu.out.2.2.drew, Huk.out⟩)
   clear HIu Huk
   generalize wu.drew = y0 at *
   refine wpAnyH_take (i := 0) (v := .func (.func 214) #[] #[.pointer (some ⟨J, 0, none⟩)]) rfl (by kernel_rfl) (by kernel_rfl) (by kernel_rfl) (fun _ _ _ h => h) (Or.inl ⟨by rfl, fun w hSw => ?_⟩) hS0 ?_
   ·go_simp
   simp only [Act.put, List.getElem_toArray, List.getElem_cons_zero, List.getElem_cons_succ, List.setIfInBounds_toArray, List.set_cons_zero, List.set_cons_succ]
   refine wpAnyH_take (i := 1) (v := .pointer (some ⟨U, 0, none⟩)) rfl (by kernel_rfl) (by kernel_rfl) (by kernel_rfl) (fun _ _ _ h => h) (Or.inl ⟨by rfl, fun w hSw => ?_⟩) hS0 ?_
   ·go_simp
   simp only [Act.put, List.getElem_toArray, List.getElem_cons_zero, List.getElem_cons_succ, List.setIfInBounds_toArray, List.set_cons_zero, List.set_cons_succ]
   refine wpAnyH_take (i := 2) (v := .string nm) rfl (by kernel_rfl) (by kernel_rfl) (by kernel_rfl) (fun _ _ _ h => h) (Or.inl ⟨by rfl, fun w hSw => ?_⟩) hS0 ?_
   ·have yy := hSw.1; go_simp
   simp only [Act.put, List.getElem_toArray, List.getElem_cons_zero, List.getElem_cons_succ, List.setIfInBounds_toArray, List.set_cons_zero, List.set_cons_succ]
   refine wpAnyH_take (i := 3) (v := .pointer (some ⟨U, 1, none⟩)) rfl (by kernel_rfl) (by kernel_rfl) (by kernel_rfl) (fun _ _ _ h => h) (Or.inl ⟨by rfl, fun w hSw => ?_⟩) hS0 ?_
   ·go_simp
   simp only [Act.put, List.getElem_toArray, List.getElem_cons_zero, List.getElem_cons_succ, List.setIfInBounds_toArray, List.set_cons_zero, List.set_cons_succ]
   refine wpAnyH_take (i := 4) (v := .int .i64 (o : Int)) rfl (by kernel_rfl) (by kernel_rfl) (by kernel_rfl) (fun _ _ _ h => h) (Or.inl ⟨by rfl, fun w hSw => ?_⟩) hS0 ?_
   ·have yy := hSw.2.1; go_simp
   simp only [Act.put, List.getElem_toArray, List.getElem_cons_zero, List.getElem_cons_succ, List.setIfInBounds_toArray, List.set_cons_zero, List.set_cons_succ]
   refine wpAnyH_take (i := 6) (v := .pointer (some ⟨U, 2, none⟩)) rfl (by kernel_rfl) (by kernel_rfl) (by kernel_rfl) (fun _ _ _ h => h) (Or.inl ⟨by rfl, fun w hSw => ?_⟩) hS0 ?_
   ·go_simp
   simp only [Act.put, List.getElem_toArray, List.getElem_cons_zero, List.getElem_cons_succ, List.setIfInBounds_toArray, List.set_cons_zero, List.set_cons_succ]
   refine wpAnyH_take (i := 7) (v := .int .i64 (m : Int)) rfl (by kernel_rfl) (by kernel_rfl) (by kernel_rfl) (fun _ _ _ h => h) (Or.inl ⟨by rfl, fun w hSw => ?_⟩) hS0 ?_
   ·have yy := hSw.2.2; go_simp
   simp only [Act.put, List.getElem_toArray, List.getElem_cons_zero, List.getElem_cons_succ, List.setIfInBounds_toArray, List.set_cons_zero, List.set_cons_succ]
   refine wpAnyH_all (rs := [5]) (by kernel_rfl) (by simp) (fun j hj => ?_)
   obtain rfl : j = 5 := by simpa using hj
   refine Or.inl ?_
   go_wp2_with fail
   refine (HT1.out _).mono ?_
   rintro e y1 ⟨rfl, rfl⟩
   go_simp
   first | refine ⟨hS0, ?_⟩ | skip
   refine wpAnyH_all (rs := [8]) (by kernel_rfl) (by simp) (fun j hj => ?_)
   obtain rfl : j = 8 := by simpa using hj
   refine Or.inl ?_
   go_wp2_with fail
   refine (HT2.out _).mono ?_
   rintro e y2 ⟨rfl, rfl⟩
   go_simp
   first | refine ⟨hS0, ?_⟩ | skip
   refine wpAnyH_all (rs := [9]) (by kernel_rfl) (by simp) (fun j hj => ?_)
   obtain rfl : j = 9 := by simpa using hj
   refine Or.inl ?_
   obtain ⟨hJy, hdy, hBy, hUy⟩ := HId.out
   have hb9 : Below y2.heap.size y2 (y2.alloc (.cells #[.string nm, .string so, .string sm] 9)) := (Below.refl _ _).alloc (Nat.le_refl _) _
   have hk9 : (y2.alloc (.cells #[.string nm, .string so, .string sm] 9)).heap[y2.heap.size]? = some (.cells #[.string nm, .string so, .string sm] 9 (0, 0)) := heap_alloc_new y2 _
   have hJ9 := blk_below' hJy hb9
   have hd9 := hdy.below hb9
   have hB9 := hBy.trans (hb9.mono hBy.size)
   have hU9 := blk_below' hUy hb9
   have hS9 : (fun x : World => x.cell? ⟨U, 0, none⟩ = some (.string nm) ∧ x.cell? ⟨U, 1, none⟩ = some (.int .i64 (o : Int)) ∧ x.cell? ⟨U, 2, none⟩ = some (.int .i64 (m : Int))) (y2.alloc (.cells #[.string nm, .string so, .string sm] 9)) := ⟨block_cell (j := 0) hU9 rfl, block_cell (j := 1) hU9 rfl, block_cell (j := 2) hU9 rfl⟩
   have HX9 := Lib.hid (And.intro hJ9 (And.intro hd9 (And.intro hB9 (And.intro hU9 hk9))))
   clear hb9 hk9 hJ9 hd9 hB9 hU9 hJy hdy hBy hUy HId hS0
   go_simp
   first | refine ⟨hS9, ?_⟩ | skip
   generalize y2.heap.size = bk at *
   generalize y2.alloc _ = x9 at *
   refine wpAnyH_all (rs := [10]) (by kernel_rfl) (by simp) (fun j hj => ?_)
   obtain rfl : j = 10 := by simpa using hj
   refine Or.inl ?_
   have HPut := Lib.hid (linePut_any J bk s nm so sm x9 HX9.out.1 HX9.out.2.2.2.2 hns hso hsm (by omega))
   go_wp2_with fail
   refine HPut.out.mono ?_
   rintro e x10 ⟨rfl, hJ10, z1, hz1, hu⟩
   have hU10 := hu.blk (blk_below' HX9.out.2.2.2.1 hz1) hU
   have hd10 := mvs_upd (HX9.out.2.1.below hz1) hu (fun b hb e => hb e)
   have hB9 := HX9.out.2.2.1
   have hB10 := (hB9.trans (hz1.mono hB9.size)).trans (hu.below (B := w.heap.size) (by have := hB9.size; have := hz1.size; omega) (fun b e => by rw [e]; exact hJw.out))
   have hS10 : (fun x : World => x.cell? ⟨U, 0, none⟩ = some (.string nm) ∧ x.cell? ⟨U, 1, none⟩ = some (.int .i64 (o : Int)) ∧ x.cell? ⟨U, 2, none⟩ = some (.int .i64 (m : Int))) x10 := ⟨block_cell (j := 0) hU10 rfl, block_cell (j := 1) hU10 rfl, block_cell (j := 2) hU10 rfl⟩
   have HEnd := Lib.hid (show x10.heap[J]? = some (.cells #[.string (lineL (d.take (k + 1)) ByteArray.empty)] 9 (0, 0)) ∧ MvsV (fun b => b ≠ J) x10 _ d ∧ Below w.heap.size w x10 from ⟨by rw [HL.out, HO.out]; exact hJ10, hd10, hB10⟩)
   clear hJ10 hz1 hu hU10 hd10 hB9 hB10 HPut HX9 hS9
   go_simp
   first | refine ⟨hS10, ?_⟩ | skip
   refine wpAnyH_done (by kernel_rfl) ?_ _
   go_wp2_with fail
   go_roundw
   case rel => exact ⟨k + 1, by omega, by go_num, HEnd.out⟩
   case measure => simp [intOf]; omega
end Go.Proofs.YtjdgpgfiomnjkaaGreatDoor
