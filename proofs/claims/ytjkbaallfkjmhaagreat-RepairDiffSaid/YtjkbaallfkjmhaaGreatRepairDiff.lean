
/- Walks: the law RepairDiff. -/
import Derived.Test.YtjkbaallfkjmhaaGreatRepE
import Derived.Test.YtjkbaallfkjmhaaGreatRepP
import Derived.Test.YtjkbaallfkjmhaaGreatDiffF
import Derived.Deep.DeepCutAuto
namespace Go.Proofs.YtjkbaallfkjmhaaGreat
open Go.RowKit
set_option linter.unusedVariables false
set_option linter.unusedSimpArgs false

theorem lead_self : ∀ (n : Nat) (l : List Rf), leadN n l l = []
  | 0, _ => rfl
  | n + 1, [] => rfl
  | n + 1, r :: l => by
    unfold leadN
    rw [if_neg (by rw [strLt_irrefl]; decide), if_neg (by rw [strLt_irrefl]; decide), if_pos rfl]
    exact lead_self n l
theorem refs_self {l : List Rf} {s : List Obj} (h : checkRefs l s = 0) : listsE l l = 0 ∧ refsL l l = [] := by
  have hk := (checkRefs_zero.1 h).2
  have hn : namesE l = 0 := scan_of_zero fun i hi => hk.name i hi
  have hr : risesB l = true := rises_all fun i hi h0 => hk.up (i - 1) i (by omega) hi
  have h0 : listsE l l = 0 := by
    unfold listsE
    rw [if_neg (by have := hk.many; omega), if_neg (by simpa using hn), if_neg (by simpa using hn), if_pos ⟨hr, hr⟩]
  exact ⟨h0, by unfold refsL; rw [if_pos h0]; exact lead_self _ _⟩

set_option maxRecDepth 100000 in
set_option maxHeartbeats 8000000 in
theorem repairDiff_any (n r : Rep) (sv rv ov uv sv2 rv2 ov2 uv2 : Value) (S S' : Nat → Prop) (w : World) (h : RepIs S w n sv rv ov uv) (h2 : RepIs S' w r sv2 rv2 ov2 uv2) :
    Calls Tryz.prog 3 #[repV n sv rv ov uv, repV r sv2 rv2 ov2 uv2] w fun e w' => e = .returned (.bool true) ∧ Below w.heap.size w w' := by
  have H := Lib.hid h
  have G := Lib.hid h2
  obtain ⟨san, scn, rfl⟩ := h.store.vshape
  obtain ⟨⟨ran, rcn⟩, rfl⟩ := h.refs.shape
  obtain ⟨oan, ocn, rfl⟩ := h.objs.vshape
  obtain ⟨⟨uan, ucn⟩, rfl⟩ := h.upds.shape
  obtain ⟨sar, scr, rfl⟩ := h2.store.vshape
  obtain ⟨⟨rar, rcr⟩, rfl⟩ := h2.refs.shape
  obtain ⟨oar, ocr, rfl⟩ := h2.objs.vshape
  obtain ⟨⟨uar, ucr⟩, rfl⟩ := h2.upds.shape
  clear h h2
  simp only [repV]
  obtain ⟨R, hR, hR1, HB0⟩ := cls_allocs w [.cells #[.slice san n.store.length scn, .slice ran n.refs.length rcn, .int .i64 n.gen, .int .i64 n.phase, .slice oan n.pend.objects.length ocn, .slice uan n.pend.updates.length ucn, .bool n.pend.force] 28, .cells #[.slice sar r.store.length scr, .slice rar r.refs.length rcr, .int .i64 r.gen, .int .i64 r.phase, .slice oar r.pend.objects.length ocr, .slice uar r.pend.updates.length ucr, .bool r.pend.force] 28]
  simp only [List.foldl] at hR1
  have hRb := hR.below
  have hRn := hR.next
  have HBn := Lib.hid (fun x (hx : In R x) => show x.heap[w.heap.size]? = some (.cells #[.slice san n.store.length scn, .slice ran n.refs.length rcn, .int .i64 n.gen, .int .i64 n.phase, .slice oan n.pend.objects.length ocn, .slice uan n.pend.updates.length ucn, .bool n.pend.force] 28 (0, 0)) from HB0 x hx 0 _ rfl)
  have HBr := Lib.hid (fun x (hx : In R x) => show x.heap[w.heap.size + 1]? = some (.cells #[.slice sar r.store.length scr, .slice rar r.refs.length rcr, .int .i64 r.gen, .int .i64 r.phase, .slice oar r.pend.objects.length ocr, .slice uar r.pend.updates.length ucr, .bool r.pend.force] 28 (0, 0)) from HB0 x hx 1 _ rfl)
  clear HB0
  have y0 := block_cell (j := 0) (HBn.out _ hR1) rfl
  have y1 := block_cell (j := 1) (HBn.out _ hR1) rfl
  have y2 := block_cell (j := 2) (HBn.out _ hR1) rfl
  have y3 := block_cell (j := 3) (HBn.out _ hR1) rfl
  have y4 := block_cell (j := 4) (HBn.out _ hR1) rfl
  have y5 := block_cell (j := 5) (HBn.out _ hR1) rfl
  have y6 := block_cell (j := 6) (HBn.out _ hR1) rfl
  have z0 := block_cell (j := 0) (HBr.out _ hR1) rfl
  have z1 := block_cell (j := 1) (HBr.out _ hR1) rfl
  have z2 := block_cell (j := 2) (HBr.out _ hR1) rfl
  have z3 := block_cell (j := 3) (HBr.out _ hR1) rfl
  have z4 := block_cell (j := 4) (HBr.out _ hR1) rfl
  have z5 := block_cell (j := 5) (HBr.out _ hR1) rfl
  have z6 := block_cell (j := 6) (HBr.out _ hR1) rfl
  have HFr := Lib.hid (from_any n r _ _ _ _ _ _ _ _ _ _ _ (H.out.below (hRb _ hR1)) (G.out.below (hRb _ hR1)))
  simp only [repV] at HFr
  have HM := Lib.hid (fun (h : fromE n r = 0) => mended h)
  have HNo := Lib.hid (fun (h : fromE n r ≠ 0) => fromR_not h)
  generalize hA : fromR n r = A at *
  generalize hE : fromE n r = E at *
  go_enter Tryz.func3, Tryz.ntmps3
  go_wp2_with fail
  refine HFr.out.mono ?_
  rintro e x1 ⟨svt, rvt, ovt, uvt, rfl, hv, hb1⟩
  obtain ⟨saa, sca, rfl⟩ := hv.store.vshape
  obtain ⟨⟨raa, rca⟩, rfl⟩ := hv.refs.shape
  obtain ⟨oaa, oca, rfl⟩ := hv.objs.vshape
  obtain ⟨⟨uaa, uca⟩, rfl⟩ := hv.upds.shape
  have hRx1 := hRn _ _ hR1 hb1
  obtain ⟨T, hT, hT1, HT0⟩ := cls_allocs x1 [.cells #[.slice saa A.store.length sca, .slice raa A.refs.length rca, .int .i64 A.gen, .int .i64 A.phase, .slice oaa A.pend.objects.length oca, .slice uaa A.pend.updates.length uca, .bool A.pend.force] 28]
  simp only [List.foldl] at hT1
  have hTb := hT.below
  have hTn := hT.next
  have hTR : ∀ x, In T x → In R x := fun x hx => hRn _ _ hRx1 (hTb x hx)
  have HBa := Lib.hid (fun x (hx : In T x) => show x.heap[x1.heap.size]? = some (.cells #[.slice saa A.store.length sca, .slice raa A.refs.length rca, .int .i64 A.gen, .int .i64 A.phase, .slice oaa A.pend.objects.length oca, .slice uaa A.pend.updates.length uca, .bool A.pend.force] 28 (0, 0)) from HT0 x hx 0 _ rfl)
  have HA := Lib.hid (fun x (hx : In T x) => hv.below (hTb x hx))
  have HB := Lib.hid (fun x (hx : In T x) => hRb _ (hTR x hx))
  have HN := Lib.hid (fun x (hx : In T x) => H.out.below (hRb _ (hTR x hx)))
  have HR := Lib.hid (fun x (hx : In T x) => G.out.below (hRb _ (hTR x hx)))
  have HBn2 := Lib.hid (fun x (hx : In T x) => HBn.out x (hTR x hx))
  have HBr2 := Lib.hid (fun x (hx : In T x) => HBr.out x (hTR x hx))
  clear y0 y1 y2 y3 y4 y5 y6 z0 z1 z2 z3 z4 z5 z6 HT0 HFr HBn HBr hb1 hv hRx1 hR1 hRb hRn hTR hTb
  simp only [repV]
  go_wp2_with fail
  refine (repairBegun_any _).mono ?_
  rintro e x2 ⟨rfl, hb⟩
  have hT2 := hTn _ _ hT1 hb
  clear hb hT1
  go_wp2_with fail
  refine (diffBegun_any _).mono ?_
  rintro e x3 ⟨rfl, hb⟩
  have hT3 := hTn _ _ hT2 hb
  clear hb hT2
  by_cases hz : E = 0
  case neg =>
    have hq : (E != 0) = true := by simpa using hz
    have h0 : A = rep0 := HNo.out hz
    clear hz
    have a0 := block_cell (j := 0) (HBa.out _ hT3) rfl
    have a2 := block_cell (j := 2) (HBa.out _ hT3) rfl
    have hl : A.store.length = 0 := by rw [h0]; rfl
    have hg : A.gen = 0 := by rw [h0]; rfl
    rw [hl] at a0
    rw [hg] at a2
    clear h0 hl hg
    have HEnd := Lib.hid (HB.out _ hT3)
    go_wp2_with fail
    go_ret
    exact ⟨rfl, HEnd.out⟩
  case pos =>
    subst hz
    have HM2 := Lib.hid (HM.out rfl)
    clear HM HNo
    have hcn := repCheck_store HM2.out.newer
    have hcr := repCheck_store HM2.out.older
    have hrs := refs_self (repCheck_of HM2.out.newer).1
    have hd1 := HM2.out.diff hcn (fun x hx => (HM2.out.mem x).2 (.inr hx))
    have hd2 := HM2.out.diff hcr (fun x hx => (HM2.out.mem x).2 (.inl hx))
    have HD1 := Lib.hid (fun x (hx : In T x) => objects_any n.store A.store _ _ _ _ x (HN.out _ hx).store (HA.out _ hx).store)
    rw [hd1.1, hd1.2] at HD1
    have HD2 := Lib.hid (fun x (hx : In T x) => objects_any r.store A.store _ _ _ _ x (HR.out _ hx).store (HA.out _ hx).store)
    rw [hd2.1, hd2.2] at HD2
    have HD3 := Lib.hid (fun x (hx : In T x) => drefs_any n.refs A.refs _ _ _ _ x (HN.out _ hx).refs (HA.out _ hx).refs)
    rw [HM2.out.refs, hrs.1, hrs.2] at HD3
    have hlr := congrArg List.length HM2.out.refs
    have Hlr := Lib.hid hlr
    clear hcn hcr hrs hd1 hd2 hlr
    have a0 := fun x (hx : In T x) => block_cell (j := 0) (HBa.out _ hx) rfl
    have y0 := fun x (hx : In T x) => block_cell (j := 0) (HBn2.out _ hx) rfl
    have a1 := fun x (hx : In T x) => block_cell (j := 1) (HBa.out _ hx) rfl
    have y1 := fun x (hx : In T x) => block_cell (j := 1) (HBn2.out _ hx) rfl
    have z0 := fun x (hx : In T x) => block_cell (j := 0) (HBr2.out _ hx) rfl
    have aa := a0 _ hT3
    have yy := y0 _ hT3
    go_wp2_with fail
    refine (HD1.out _ hT3).mono ?_
    rintro e x4 ⟨v4, rfl, hv4, hb⟩
    obtain ⟨p4, q4, rfl⟩ := hv4.vshape
    have hT4 := hTn _ _ hT3 hb
    clear hb hv4 aa yy
    have aa := a0 _ hT4
    have zz := z0 _ hT4
    go_wp2_with fail
    refine (HD2.out _ hT4).mono ?_
    rintro e x5 ⟨v5, rfl, hv5, hb⟩
    obtain ⟨p5, q5, rfl⟩ := hv5.vshape
    have hT5 := hTn _ _ hT4 hb
    clear hb hv5 aa zz
    rw [Hlr.out] at a1
    have aa := a1 _ hT5
    have yy := y1 _ hT5
    go_wp2_with fail
    refine (HD3.out _ hT5).mono ?_
    rintro e x6 ⟨v6, rfl, hv6, hb⟩
    obtain ⟨⟨p6, q6⟩, rfl⟩ := hv6.shape
    have hT6 := hTn _ _ hT5 hb
    have HEnd := Lib.hid (HB.out _ hT6)
    clear hb hv6 aa yy
    go_wp2_with fail
    go_ret
    exact ⟨rfl, HEnd.out⟩
end Go.Proofs.YtjkbaallfkjmhaaGreat
