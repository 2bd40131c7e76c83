
/- RepE: walk of repairBegun. -/
import Derived.Test.YtgbnlmplkealdaaGreatDoorC41
set_option linter.all false
set_option maxHeartbeats 8000000
set_option maxRecDepth 100000
namespace Go.Proofs.YtgbnlmplkealdaaGreatDoor
open Go.RowKit
variable [Ghost]
def AW:Am:=⟨DL.take 3,Fm.take 1,2,0,CU⟩
theorem WN:IH Ar AW=0:=by decide+kernel
theorem WO:IH AW Ar=4:=by decide+kernel
theorem WP:Eh (Fe Ar AW) Ar=true:=by decide+kernel
theorem WQ:OQ [Ar,AW,Ar]=0:=by decide+kernel
theorem WR:Rd [Ar,AW,Ar]=1:=by decide+kernel
theorem WS:Eh (Ag (LH [Ar,AW,Ar]) 1) Ar=true:=by decide+kernel
theorem Rk:(LH [Ar,AW,Ar]).length=3:=by decide+kernel
theorem MU (w:World):Calls Tryz.prog 6 #[] w fun e w'=>e=.returned (.bool true)∧Below w.heap.size w w':=by
 go_enter Tryz.func6, Tryz.ntmps6
 go_upto_region 1 with fail;go_cut [1] (fun s1 wx=>∃D1,s1=.pointer (some ⟨D1,0,none⟩)∧∃y,y=wx∧Hid (KH D1 y AW∧Below w.heap.size w y))
 case first=>
  obtain⟨Q,hQ,hQ1,hQu⟩:=EU w;have hQb:=hQ.below;have hQn:=hQ.next
  have HQu:=zh hQu;clear hQu;refine rh (In Q) ?_;have hC0:=hQ.drew _ hQ1;generalize w.drew=x0 at hC0⊢;refine aO #[.slice none 0 0,.slice none 0 0,.int .i64 0,.int .i64 0,.slice none 0 0,.slice none 0 0,.bool false] 34 (fun D=>.pointer (some ⟨D,0,none⟩)) 5 0 hQ hC0 (fun b v D x1 hC1 hd1=>?_);simp only[tkS];refine Or.inl ?_;go_wp2_with fail;refine(Mf _).mono ?_;rintro e x2 ⟨v0,rfl,hv0,hb⟩;obtain⟨a0,c0,rfl⟩:=hv0.vshape;have hc0:5≤c0:=by obtain⟨_,⟨_,_,e,h1,_⟩,_⟩:=hv0;cases e;exact h1
  have hC2:=hQn _ _ hC1 hb;have hd2:=hd1.below hb;have Hv0:=zh ((hv0.lt.take (i:=3) (by decide)).weaken fun m hm=>hd1.new hm);clear hv0 hb hC1 hd1;rw[show DL.length=5 from rfl];go_simp;have hq1:(3:Int)≤(c0:Int):=by omega
  have hq2:3≤c0:=by omega
  refine UH 1 (.slice a0 3 c0) (fun w hSw=>?_) hC2 ?_
  ·go_simp
  simp only[tkS];refine aE 5 2 (fun U X=>Ai U X (.slice a0 3 c0) (DL.take 3)) hQ hC2 hd2 Hv0.out (fun U V X Y hb hw h=>(h.below hb).weaken hw) (fun b v D x3 hC3 hd3 h=>?_);clear hC2 hd2 Hv0;have Hv0:=zh h;clear h;simp only[tkS];refine Or.inl ?_;go_wp2_with fail;refine(PP _).mono ?_;rintro e x4 ⟨v1,rfl,hv1,hb⟩;obtain⟨⟨a1,c1⟩,rfl⟩:=hv1.shape;have hc1:2≤c1:=by obtain⟨⟨_,_,e,h1,_⟩,_⟩:=hv1;cases e;exact h1
  have hC4:=hQn _ _ hC3 hb;have hd4:=hd3.below hb;replace Hv0:=zh ((Hv0.out.below hb).weaken (fun m hm=>Gd.below hb hm));have Hv1:=zh ((hv1.lt.take (i:=1) (by decide)).weaken fun m hm=>hd3.new hm);clear hv1 hb hC3 hd3;rw[show Fm.length=2 from rfl];go_simp;have hq3:(1:Int)≤(c1:Int):=by omega
  have hq4:1≤c1:=by omega
  refine UH 3 (.slice a1 1 c1) (fun w hSw=>?_) hC4 ?_
  ·go_simp
  simp only[tkS];refine UH 4 (.agg #[.slice a0 3 c0,.slice a1 1 c1,.int .i64 2,.int .i64 0,.slice none 0 0,.slice none 0 0,.bool false]) (fun w hSw=>?_) hC4 ?_
  ·go_simp
  simp only[tkS];refine aF 5 6 (fun U X=>Ai U X (.slice a0 3 c0) (DL.take 3)∧AB U X (.slice a1 1 c1) (Fm.take 1)) hQ hC4 hd4 ⟨Hv0.out,Hv1.out⟩ (fun U V X Y hb hw h=>⟨(h.1.below hb).weaken hw,(h.2.below hb).weaken hw⟩) (fun D x5 hC5 HDge hblk h=>?_);clear hC4 hd4 Hv0 Hv1;obtain⟨g_Hv0,g_Hv1⟩:=h;have Hv0:=zh g_Hv0;have Hv1:=zh g_Hv1;clear g_Hv0 g_Hv1;simp only[tkS];refine Or.inl ?_;have HvR:=zh (show Ax (fun m=>m<x5.heap.size∧m≠D) x5 AW (.slice a0 3 c0) (.slice a1 1 c1) (.slice none 0 0) (.slice none 0 0) from⟨Hv0.out,Hv1.out,Ai.nil _ _ _ _ (by omega),AJ.nil _ _ _ _ (by omega),by show Dy 2;unfold Dy;decide,by show Dy 0;unfold Dy;decide⟩);obtain⟨g0,g1,g2,g3,g4,g5,g6⟩:=bc7 hblk;obtain⟨f0,f1,f2,f3,f4,f5,f6⟩:=bf7 hblk;have Hb7:=zh (AZ (v0:=.slice a0 3 c0) (v1:=.slice a1 1 c1) (v2:=.int .i64 2) (v3:=.int .i64 0) (v4:=.slice none 0 0) (v5:=.slice none 0 0) (v6:=.bool false) hblk);have Hu7:=zh (AM D (.slice a0 3 c0) (.slice a1 1 c1) (.int .i64 2) (.int .i64 0) (.slice none 0 0) (.slice none 0 0) (.bool false) x5);have hQ7:=HQu.out _ _ _ hC5 Hu7.out (fun b hb=>by omega);have HB:=zh (show KH D (Bg D (.slice a0 3 c0) (.slice a1 1 c1) (.int .i64 2) (.int .i64 0) (.slice none 0 0) (.slice none 0 0) (.bool false) x5) AW from⟨_,_,_,_,_,_,_,_,Hb7.out,Ax.weaken (HvR.out.upd Hu7.out (fun b hb e=>hb.2 e)) fun _ _=>trivial⟩);clear Hb7 HvR;go_wp2_with fail;refine⟨hQ7,?_⟩;change wpAnyH _ _ _ _ _ _ _ _ (Bg D (.slice a0 3 c0) (.slice a1 1 c1) (.int .i64 2) (.int .i64 0) (.slice none 0 0) (.slice none 0 0) (.bool false) x5)
  generalize Bg D (.slice a0 3 c0) (.slice a1 1 c1) (.int .i64 2) (.int .i64 0) (.slice none 0 0) (.slice none 0 0) (.bool false) x5=w7 at*;clear g0 g1 g2 g3 g4 g5 g6 f0 f1 f2 f3 f4 f5 f6 hblk Hu7;refine wpAnyH_done (by kernel_rfl) ?_ _;have HB2:=zh (And.intro HB.out (hQb _ hQ7));go_wp2_with fail;go_meet;exact⟨_,rfl,_,rfl,HB2.out⟩
 obtain⟨D1,rfl,y1,rfl,HK1⟩:=hcut;go_upto_region 2 with fail;go_cut [2,3] (fun s2 s3 wx=>∃D2,s2=.pointer (some ⟨D2,0,none⟩)∧s3=.int .i64 0∧∃y,y=wx∧Hid (KH D1 y AW∧KH D2 y (Fe Ar AW)∧Below w.heap.size w y))
 case first=>
  obtain⟨AU,AX,ra1,rc1,oa1,oc1,ua1,uc1,hbk1,hr1⟩:=HK1.out.1;obtain⟨Q,hQ,hQ1,hQu⟩:=EU y1;have hQb:=hQ.below;have hQn:=hQ.next
  have HQu:=zh hQu;clear hQu;have HBk:=zh (fun x (hx:In Q x)=>show x.heap[D1]?=some (.cells #[.slice AU (AW).store.length AX,.slice ra1 (AW).refs.length rc1,.int .i64 (AW).gen,.int .i64 (AW).phase,.slice oa1 (AW).pend.objects.length oc1,.slice ua1 (AW).pend.updates.length uc1,.bool (AW).pend.force] 34 (0,0)) from Ab hbk1 (hQb _ hx));have HRo:=zh (fun x (hx:In Q x)=>hr1.below (hQb _ hx));clear hbk1 hr1;refine rh (In Q) ?_;have hC0:=hQ.drew _ hQ1;generalize y1.drew=x0 at hC0⊢;refine tk 1 (.agg #[.slice AU (AW).store.length AX,.slice ra1 (AW).refs.length rc1,.int .i64 (AW).gen,.int .i64 (AW).phase,.slice oa1 (AW).pend.objects.length oc1,.slice ua1 (AW).pend.updates.length uc1,.bool (AW).pend.force]) (fun w hSw=>?_) hC0 ?_
  ·have hbk:=HBk.out _ hSw
   obtain⟨y0,y1,y2,y3,y4,y5,y6⟩:=bc7 hbk;clear hbk;go_simp
  simp only[tkS];refine aO #[.slice none 0 0,.slice none 0 0,.int .i64 0,.int .i64 0,.slice none 0 0,.slice none 0 0,.bool false] 34 (fun D=>.pointer (some ⟨D,0,none⟩)) 6 0 hQ hC0 (fun b v D x1 hC1 hd1=>?_);simp only[tkS];refine Or.inl ?_;go_wp2_with fail;refine(GM _).mono ?_;rintro e x2 ⟨svt,rvt,ovt,uvt,rfl,hv,hb⟩;obtain⟨sah0,sch0,rfl⟩:=hv.store.vshape;obtain⟨⟨rah0,rch0⟩,rfl⟩:=hv.refs.shape;obtain⟨oah0,och0,rfl⟩:=hv.objs.vshape;obtain⟨⟨uah0,uch0⟩,rfl⟩:=hv.upds.shape;have hC2:=hQn _ _ hC1 hb;have hd2:=hd1.below hb;have Hh0:=zh (hv.weaken (S':=fun _=>True) fun _ _=>trivial);clear hv hb hC1 hd1;simp only[AO];go_simp;refine aE 6 2 (fun U X=>Ax (fun _=>True) X Ar (.slice sah0 (Ar).store.length sch0) (.slice rah0 (Ar).refs.length rch0) (.slice oah0 (Ar).pend.objects.length och0) (.slice uah0 (Ar).pend.updates.length uch0)) hQ hC2 hd2 Hh0.out (fun U V X Y hb hw h=>h.below hb) (fun b v D x3 hC3 hd3 h=>?_);clear hC2 hd2 Hh0;have Hh0:=zh h;clear h;simp only[tkS];refine Or.inl ?_;have HFr:=zh (RF Ar AW _ _ _ _ _ _ _ _ _ _ x3 Hh0.out (HRo.out _ hC3));rw[WN] at HFr;simp only[AO] at HFr;go_wp2_with fail;refine HFr.out.mono ?_;rintro e x4 ⟨svt,rvt,ovt,uvt,rfl,hv,hb⟩;obtain⟨sar,scr,rfl⟩:=hv.store.vshape;obtain⟨⟨rar,rcr⟩,rfl⟩:=hv.refs.shape;obtain⟨oar,ocr,rfl⟩:=hv.objs.vshape;obtain⟨⟨uar,ucr⟩,rfl⟩:=hv.upds.shape;clear Hh0;have hC4:=hQn _ _ hC3 hb;have hd4:=hd3.below hb;have HvR:=zh (hv.lt.weaken fun m hm=>hd3.new hm);clear hv hb HFr hC3 hd3;simp only[AO];generalize hRR:Fe Ar AW=RR at*
  go_simp;refine UH 3 (.tuple #[.agg #[.slice sar (RR).store.length scr,.slice rar (RR).refs.length rcr,.int .i64 (RR).gen,.int .i64 (RR).phase,.slice oar (RR).pend.objects.length ocr,.slice uar (RR).pend.updates.length ucr,.bool (RR).pend.force],.int .i64 0]) (fun w hSw=>?_) hC4 ?_
  ·go_simp
  simp only[tkS];refine UH 4 (.agg #[.slice sar (RR).store.length scr,.slice rar (RR).refs.length rcr,.int .i64 (RR).gen,.int .i64 (RR).phase,.slice oar (RR).pend.objects.length ocr,.slice uar (RR).pend.updates.length ucr,.bool (RR).pend.force]) (fun w hSw=>?_) hC4 ?_
  ·go_simp
  simp only[tkS];refine UH 5 (.int .i64 0) (fun w hSw=>?_) hC4 ?_
  ·go_simp
  simp only[tkS];refine aF 6 7 (fun U X=>Ax U X RR (.slice sar (RR).store.length scr) (.slice rar (RR).refs.length rcr) (.slice oar (RR).pend.objects.length ocr) (.slice uar (RR).pend.updates.length ucr)) hQ hC4 hd4 HvR.out (fun U V X Y hb hw h=>(h.below hb).weaken hw) (fun D x5 hC5 HDge hblk h=>?_);clear hC4 hd4 HvR;have HvR:=zh h;clear h;simp only[tkS];refine Or.inl ?_;obtain⟨g0,g1,g2,g3,g4,g5,g6⟩:=bc7 hblk;obtain⟨f0,f1,f2,f3,f4,f5,f6⟩:=bf7 hblk;have Hb7:=zh (AZ (v0:=.slice sar (RR).store.length scr) (v1:=.slice rar (RR).refs.length rcr) (v2:=.int .i64 (RR).gen) (v3:=.int .i64 (RR).phase) (v4:=.slice oar (RR).pend.objects.length ocr) (v5:=.slice uar (RR).pend.updates.length ucr) (v6:=.bool (RR).pend.force) hblk);have Hu7:=zh (AM D (.slice sar (RR).store.length scr) (.slice rar (RR).refs.length rcr) (.int .i64 (RR).gen) (.int .i64 (RR).phase) (.slice oar (RR).pend.objects.length ocr) (.slice uar (RR).pend.updates.length ucr) (.bool (RR).pend.force) x5);have hQ7:=HQu.out _ _ _ hC5 Hu7.out (fun b hb=>by omega);have HB:=zh (show KH D (Bg D (.slice sar (RR).store.length scr) (.slice rar (RR).refs.length rcr) (.int .i64 (RR).gen) (.int .i64 (RR).phase) (.slice oar (RR).pend.objects.length ocr) (.slice uar (RR).pend.updates.length ucr) (.bool (RR).pend.force) x5) RR from⟨_,_,_,_,_,_,_,_,Hb7.out,Ax.weaken (HvR.out.upd Hu7.out (fun b hb e=>hb.2 e)) fun _ _=>trivial⟩);clear Hb7 HvR;go_wp2_with fail;refine⟨hQ7,?_⟩;change wpAnyH _ _ _ _ _ _ _ _ (Bg D (.slice sar (RR).store.length scr) (.slice rar (RR).refs.length rcr) (.int .i64 (RR).gen) (.int .i64 (RR).phase) (.slice oar (RR).pend.objects.length ocr) (.slice uar (RR).pend.updates.length ucr) (.bool (RR).pend.force) x5)
  generalize Bg D (.slice sar (RR).store.length scr) (.slice rar (RR).refs.length rcr) (.int .i64 (RR).gen) (.int .i64 (RR).phase) (.slice oar (RR).pend.objects.length ocr) (.slice uar (RR).pend.updates.length ucr) (.bool (RR).pend.force) x5=w7 at*;clear g0 g1 g2 g3 g4 g5 g6 f0 f1 f2 f3 f4 f5 f6 hblk Hu7;refine al1 8 ?_;refine Or.inl ?_;go_wp2_with fail
  first|refine⟨hQ7,?_⟩|skip
  refine wpAnyH_done (by kernel_rfl) ?_ _;have HB2:=zh (hQb _ hQ7);subst hRR;go_wp2_with fail;go_meet;exact⟨_,rfl,rfl,_,rfl,HK1.out.1.below HB2.out,HB.out,Al HK1.out.2 HB2.out⟩
 obtain⟨D2,rfl,rfl,y2,rfl,HK2⟩:=hcut;clear HK1;go_upto_region 3 with fail;go_cut [4,5] (fun s4 s5 wx=>(∃D3,s4=.pointer (some ⟨D3,0,none⟩))∧s5=.int .i64 4∧∃y,y=wx∧Hid (KH D1 y AW∧KH D2 y (Fe Ar AW)∧Below w.heap.size w y))
 case first=>
  obtain⟨AU,AX,ra1,rc1,oa1,oc1,ua1,uc1,hbk1,hr1⟩:=HK2.out.1;obtain⟨Q,hQ,hQ1,hQu⟩:=EU y2;have hQb:=hQ.below;have hQn:=hQ.next
  have HQu:=zh hQu;clear hQu;have HBk:=zh (fun x (hx:In Q x)=>show x.heap[D1]?=some (.cells #[.slice AU (AW).store.length AX,.slice ra1 (AW).refs.length rc1,.int .i64 (AW).gen,.int .i64 (AW).phase,.slice oa1 (AW).pend.objects.length oc1,.slice ua1 (AW).pend.updates.length uc1,.bool (AW).pend.force] 34 (0,0)) from Ab hbk1 (hQb _ hx));have HRo:=zh (fun x (hx:In Q x)=>hr1.below (hQb _ hx));clear hbk1 hr1;refine rh (In Q) ?_;have hC0:=hQ.drew _ hQ1;generalize y2.drew=x0 at hC0⊢;refine tk 0 (.agg #[.slice AU (AW).store.length AX,.slice ra1 (AW).refs.length rc1,.int .i64 (AW).gen,.int .i64 (AW).phase,.slice oa1 (AW).pend.objects.length oc1,.slice ua1 (AW).pend.updates.length uc1,.bool (AW).pend.force]) (fun w hSw=>?_) hC0 ?_
  ·have hbk:=HBk.out _ hSw
   obtain⟨y0,y1,y2,y3,y4,y5,y6⟩:=bc7 hbk;clear hbk;go_simp
  simp only[tkS];refine aO #[.slice none 0 0,.slice none 0 0,.int .i64 0,.int .i64 0,.slice none 0 0,.slice none 0 0,.bool false] 34 (fun D=>.pointer (some ⟨D,0,none⟩)) 6 1 hQ hC0 (fun b v D x1 hC1 hd1=>?_);simp only[tkS];refine Or.inl ?_;go_wp2_with fail;refine(GM _).mono ?_;rintro e x2 ⟨svt,rvt,ovt,uvt,rfl,hv,hb⟩;obtain⟨sah0,sch0,rfl⟩:=hv.store.vshape;obtain⟨⟨rah0,rch0⟩,rfl⟩:=hv.refs.shape;obtain⟨oah0,och0,rfl⟩:=hv.objs.vshape;obtain⟨⟨uah0,uch0⟩,rfl⟩:=hv.upds.shape;have hC2:=hQn _ _ hC1 hb;have hd2:=hd1.below hb;have Hh0:=zh (hv.weaken (S':=fun _=>True) fun _ _=>trivial);clear hv hb hC1 hd1;simp only[AO];go_simp;refine aE 6 2 (fun U X=>Ax (fun _=>True) X Ar (.slice sah0 (Ar).store.length sch0) (.slice rah0 (Ar).refs.length rch0) (.slice oah0 (Ar).pend.objects.length och0) (.slice uah0 (Ar).pend.updates.length uch0)) hQ hC2 hd2 Hh0.out (fun U V X Y hb hw h=>h.below hb) (fun b v D x3 hC3 hd3 h=>?_);clear hC2 hd2 Hh0;have Hh0:=zh h;clear h;simp only[tkS];refine Or.inl ?_;have HFr:=zh (RF AW Ar _ _ _ _ _ _ _ _ _ _ x3 (HRo.out _ hC3) Hh0.out);rw[WO] at HFr;simp only[AO] at HFr;go_wp2_with fail;refine HFr.out.mono ?_;rintro e x4 ⟨svt,rvt,ovt,uvt,rfl,hv,hb⟩;obtain⟨sar,scr,rfl⟩:=hv.store.vshape;obtain⟨⟨rar,rcr⟩,rfl⟩:=hv.refs.shape;obtain⟨oar,ocr,rfl⟩:=hv.objs.vshape;obtain⟨⟨uar,ucr⟩,rfl⟩:=hv.upds.shape;clear Hh0;have hC4:=hQn _ _ hC3 hb;have hd4:=hd3.below hb;have HvR:=zh (hv.lt.weaken fun m hm=>hd3.new hm);clear hv hb HFr hC3 hd3;simp only[AO];generalize hRR:Fe AW Ar=RR at*
  go_simp;refine UH 3 (.tuple #[.agg #[.slice sar (RR).store.length scr,.slice rar (RR).refs.length rcr,.int .i64 (RR).gen,.int .i64 (RR).phase,.slice oar (RR).pend.objects.length ocr,.slice uar (RR).pend.updates.length ucr,.bool (RR).pend.force],.int .i64 4]) (fun w hSw=>?_) hC4 ?_
  ·go_simp
  simp only[tkS];refine UH 4 (.agg #[.slice sar (RR).store.length scr,.slice rar (RR).refs.length rcr,.int .i64 (RR).gen,.int .i64 (RR).phase,.slice oar (RR).pend.objects.length ocr,.slice uar (RR).pend.updates.length ucr,.bool (RR).pend.force]) (fun w hSw=>?_) hC4 ?_
  ·go_simp
  simp only[tkS];refine UH 5 (.int .i64 4) (fun w hSw=>?_) hC4 ?_
  ·go_simp
  simp only[tkS];refine aF 6 7 (fun U X=>Ax U X RR (.slice sar (RR).store.length scr) (.slice rar (RR).refs.length rcr) (.slice oar (RR).pend.objects.length ocr) (.slice uar (RR).pend.updates.length ucr)) hQ hC4 hd4 HvR.out (fun U V X Y hb hw h=>(h.below hb).weaken hw) (fun D x5 hC5 HDge hblk h=>?_);clear hC4 hd4 HvR;have HvR:=zh h;clear h;simp only[tkS];refine Or.inl ?_;obtain⟨g0,g1,g2,g3,g4,g5,g6⟩:=bc7 hblk;obtain⟨f0,f1,f2,f3,f4,f5,f6⟩:=bf7 hblk;have Hb7:=zh (AZ (v0:=.slice sar (RR).store.length scr) (v1:=.slice rar (RR).refs.length rcr) (v2:=.int .i64 (RR).gen) (v3:=.int .i64 (RR).phase) (v4:=.slice oar (RR).pend.objects.length ocr) (v5:=.slice uar (RR).pend.updates.length ucr) (v6:=.bool (RR).pend.force) hblk);have Hu7:=zh (AM D (.slice sar (RR).store.length scr) (.slice rar (RR).refs.length rcr) (.int .i64 (RR).gen) (.int .i64 (RR).phase) (.slice oar (RR).pend.objects.length ocr) (.slice uar (RR).pend.updates.length ucr) (.bool (RR).pend.force) x5);have hQ7:=HQu.out _ _ _ hC5 Hu7.out (fun b hb=>by omega);have HB:=zh (show KH D (Bg D (.slice sar (RR).store.length scr) (.slice rar (RR).refs.length rcr) (.int .i64 (RR).gen) (.int .i64 (RR).phase) (.slice oar (RR).pend.objects.length ocr) (.slice uar (RR).pend.updates.length ucr) (.bool (RR).pend.force) x5) RR from⟨_,_,_,_,_,_,_,_,Hb7.out,Ax.weaken (HvR.out.upd Hu7.out (fun b hb e=>hb.2 e)) fun _ _=>trivial⟩);clear Hb7 HvR;go_wp2_with fail;refine⟨hQ7,?_⟩;change wpAnyH _ _ _ _ _ _ _ _ (Bg D (.slice sar (RR).store.length scr) (.slice rar (RR).refs.length rcr) (.int .i64 (RR).gen) (.int .i64 (RR).phase) (.slice oar (RR).pend.objects.length ocr) (.slice uar (RR).pend.updates.length ucr) (.bool (RR).pend.force) x5)
  generalize Bg D (.slice sar (RR).store.length scr) (.slice rar (RR).refs.length rcr) (.int .i64 (RR).gen) (.int .i64 (RR).phase) (.slice oar (RR).pend.objects.length ocr) (.slice uar (RR).pend.updates.length ucr) (.bool (RR).pend.force) x5=w7 at*;clear g0 g1 g2 g3 g4 g5 g6 f0 f1 f2 f3 f4 f5 f6 hblk Hu7;refine al1 8 ?_;refine Or.inl ?_;go_wp2_with fail
  first|refine⟨hQ7,?_⟩|skip
  refine wpAnyH_done (by kernel_rfl) ?_ _;have HB2:=zh (hQb _ hQ7);subst hRR;go_wp2_with fail;go_meet;exact⟨⟨_,rfl⟩,rfl,_,rfl,HK2.out.1.below HB2.out,HK2.out.2.1.below HB2.out,Al HK2.out.2.2 HB2.out⟩
 obtain⟨⟨D3,rfl⟩,rfl,y3,rfl,HK3⟩:=hcut;clear HK2;go_upto_region 4 with fail;go_cut [6,7,8] (fun s6 s7 s8 wx=>∃D4,s6=.pointer (some ⟨D4,0,none⟩)∧s7=.int .i64 1∧s8=.int .i64 0∧∃y,y=wx∧Hid (Wm D4 y (LH [Ar,AW,Ar])∧KH D2 y (Fe Ar AW)∧Below w.heap.size w y))
 case first=>
  obtain⟨AU,AX,ra1,rc1,oa1,oc1,ua1,uc1,hbk1,hr1⟩:=HK3.out.1;obtain⟨Q,hQ,hQ1,hQu⟩:=EU y3;have hQb:=hQ.below;have hQn:=hQ.next
  have HQu:=zh hQu;clear hQu;have HBk:=zh (fun x (hx:In Q x)=>show x.heap[D1]?=some (.cells #[.slice AU (AW).store.length AX,.slice ra1 (AW).refs.length rc1,.int .i64 (AW).gen,.int .i64 (AW).phase,.slice oa1 (AW).pend.objects.length oc1,.slice ua1 (AW).pend.updates.length uc1,.bool (AW).pend.force] 34 (0,0)) from Ab hbk1 (hQb _ hx));have HRo:=zh (fun x (hx:In Q x)=>hr1.below (hQb _ hx));clear hbk1 hr1;refine rh (In Q) ?_;have hC0:=hQ.drew _ hQ1;generalize y3.drew=x0 at hC0⊢;refine tk 1 (.agg #[.slice AU (AW).store.length AX,.slice ra1 (AW).refs.length rc1,.int .i64 (AW).gen,.int .i64 (AW).phase,.slice oa1 (AW).pend.objects.length oc1,.slice ua1 (AW).pend.updates.length uc1,.bool (AW).pend.force]) (fun w hSw=>?_) hC0 ?_
  ·have hbk:=HBk.out _ hSw
   obtain⟨y0,y1,y2,y3,y4,y5,y6⟩:=bc7 hbk;clear hbk;go_simp
  simp only[tkS];refine aO #[.slice none 0 0] 24 (fun D=>.pointer (some ⟨D,0,none⟩)) 10 0 hQ hC0 (fun b v D x1 hC1 hd1=>?_);simp only[tkS];refine Or.inl ?_;go_wp2_with fail;refine(GM _).mono ?_;rintro e x2 ⟨svt,rvt,ovt,uvt,rfl,hv,hb⟩;obtain⟨sah0,sch0,rfl⟩:=hv.store.vshape;obtain⟨⟨rah0,rch0⟩,rfl⟩:=hv.refs.shape;obtain⟨oah0,och0,rfl⟩:=hv.objs.vshape;obtain⟨⟨uah0,uch0⟩,rfl⟩:=hv.upds.shape;have hC2:=hQn _ _ hC1 hb;have hd2:=hd1.below hb;have Hh0:=zh (hv.weaken (S':=fun _=>True) fun _ _=>trivial);clear hv hb hC1 hd1;simp only[AO];go_simp;refine aE 10 2 (fun U X=>Ax (fun _=>True) X Ar (.slice sah0 (Ar).store.length sch0) (.slice rah0 (Ar).refs.length rch0) (.slice oah0 (Ar).pend.objects.length och0) (.slice uah0 (Ar).pend.updates.length uch0)) hQ hC2 hd2 Hh0.out (fun U V X Y hb hw h=>h.below hb) (fun b v D x3 hC3 hd3 h=>?_);clear hC2 hd2 Hh0;have Hh0:=zh h;clear h;simp only[tkS];refine Or.inl ?_;go_wp2_with fail;refine(GM _).mono ?_;rintro e x4 ⟨svt,rvt,ovt,uvt,rfl,hv,hb⟩;obtain⟨sah1,sch1,rfl⟩:=hv.store.vshape;obtain⟨⟨rah1,rch1⟩,rfl⟩:=hv.refs.shape;obtain⟨oah1,och1,rfl⟩:=hv.objs.vshape;obtain⟨⟨uah1,uch1⟩,rfl⟩:=hv.upds.shape;have hC4:=hQn _ _ hC3 hb;have hd4:=hd3.below hb;replace Hh0:=zh (Hh0.out.below hb);have Hh1:=zh (hv.weaken (S':=fun _=>True) fun _ _=>trivial);clear hv hb hC3 hd3;simp only[AO];go_simp;refine aE 10 3 (fun U X=>Ax (fun _=>True) X Ar (.slice sah0 (Ar).store.length sch0) (.slice rah0 (Ar).refs.length rch0) (.slice oah0 (Ar).pend.objects.length och0) (.slice uah0 (Ar).pend.updates.length uch0)∧Ax (fun _=>True) X Ar (.slice sah1 (Ar).store.length sch1) (.slice rah1 (Ar).refs.length rch1) (.slice oah1 (Ar).pend.objects.length och1) (.slice uah1 (Ar).pend.updates.length uch1)) hQ hC4 hd4 ⟨Hh0.out,Hh1.out⟩ (fun U V X Y hb hw h=>⟨h.1.below hb,h.2.below hb⟩) (fun b v D x5 hC5 hd5 h=>?_)
  clear hC4 hd4 Hh0 Hh1;obtain⟨g_Hh0,g_Hh1⟩:=h;have Hh0:=zh g_Hh0;have Hh1:=zh g_Hh1;clear g_Hh0 g_Hh1;simp only[tkS];refine Or.inl ?_;have hrow:=VN x5 Ar AW Ar ⟨.slice sah0 (Ar).store.length sch0,.slice rah0 (Ar).refs.length rch0,.slice oah0 (Ar).pend.objects.length och0,.slice uah0 (Ar).pend.updates.length uch0⟩ ⟨.slice AU (AW).store.length AX,.slice ra1 (AW).refs.length rc1,.slice oa1 (AW).pend.objects.length oc1,.slice ua1 (AW).pend.updates.length uc1⟩ ⟨.slice sah1 (Ar).store.length sch1,.slice rah1 (Ar).refs.length rch1,.slice oah1 (Ar).pend.objects.length och1,.slice uah1 (Ar).pend.updates.length uch1⟩ 34 x5.heap.size rfl Hh0.out (HRo.out _ hC5) Hh1.out;simp only[Ba,List.cons_append,List.nil_append] at hrow;have hC6:=hQ.alloc _ (.cells #[.slice sah0 (Ar).store.length sch0,.slice rah0 (Ar).refs.length rch0,.int .i64 (Ar).gen,.int .i64 (Ar).phase,.slice oah0 (Ar).pend.objects.length och0,.slice uah0 (Ar).pend.updates.length uch0,.bool (Ar).pend.force,.slice AU (AW).store.length AX,.slice ra1 (AW).refs.length rc1,.int .i64 (AW).gen,.int .i64 (AW).phase,.slice oa1 (AW).pend.objects.length oc1,.slice ua1 (AW).pend.updates.length uc1,.bool (AW).pend.force,.slice sah1 (Ar).store.length sch1,.slice rah1 (Ar).refs.length rch1,.int .i64 (Ar).gen,.int .i64 (Ar).phase,.slice oah1 (Ar).pend.objects.length och1,.slice uah1 (Ar).pend.updates.length uch1,.bool (Ar).pend.force] 34) hC5;have hd6:=hd5.below ((Below.refl _ _).alloc (Nat.le_refl _) (.cells #[.slice sah0 (Ar).store.length sch0,.slice rah0 (Ar).refs.length rch0,.int .i64 (Ar).gen,.int .i64 (Ar).phase,.slice oah0 (Ar).pend.objects.length och0,.slice uah0 (Ar).pend.updates.length uch0,.bool (Ar).pend.force,.slice AU (AW).store.length AX,.slice ra1 (AW).refs.length rc1,.int .i64 (AW).gen,.int .i64 (AW).phase,.slice oa1 (AW).pend.objects.length oc1,.slice ua1 (AW).pend.updates.length uc1,.bool (AW).pend.force,.slice sah1 (Ar).store.length sch1,.slice rah1 (Ar).refs.length rch1,.int .i64 (Ar).gen,.int .i64 (Ar).phase,.slice oah1 (Ar).pend.objects.length och1,.slice uah1 (Ar).pend.updates.length uch1,.bool (Ar).pend.force] 34))
  have Hrow:=zh hrow;clear hrow Hh0 Hh1 hC5 hd5;go_simp;generalize x5.heap.size=B4 at*;generalize x5.alloc (.cells #[.slice sah0 (Ar).store.length sch0,.slice rah0 (Ar).refs.length rch0,.int .i64 (Ar).gen,.int .i64 (Ar).phase,.slice oah0 (Ar).pend.objects.length och0,.slice uah0 (Ar).pend.updates.length uch0,.bool (Ar).pend.force,.slice AU (AW).store.length AX,.slice ra1 (AW).refs.length rc1,.int .i64 (AW).gen,.int .i64 (AW).phase,.slice oa1 (AW).pend.objects.length oc1,.slice ua1 (AW).pend.updates.length uc1,.bool (AW).pend.force,.slice sah1 (Ar).store.length sch1,.slice rah1 (Ar).refs.length rch1,.int .i64 (Ar).gen,.int .i64 (Ar).phase,.slice oah1 (Ar).pend.objects.length och1,.slice uah1 (Ar).pend.updates.length uch1,.bool (Ar).pend.force] 34)=x6 at*;refine UH 4 (.agg #[.slice (some ⟨B4,0,none⟩) 3 3]) (fun w hSw=>?_) hC6 ?_
  ·go_simp
  simp only[tkS];refine aE 10 5 (fun U X=>Az (fun _=>True) X (.slice (some ⟨B4,0,none⟩) 3 3) [Ar,AW,Ar]) hQ hC6 hd6 Hrow.out (fun U V X Y hb hw h=>h.below hb) (fun b v D x7 hC7 hd7 h=>?_);clear hC6 hd6 Hrow;have Hrow:=zh h;clear h;simp only[tkS];refine Or.inl ?_;have HAl:=zh (Kd [Ar,AW,Ar] _ _ x7 Hrow.out);rw[WQ,WR] at HAl;go_wp2_with fail;refine HAl.out.mono ?_;rintro e x8 ⟨vt,rfl,⟨F,hO,hF⟩,hb⟩;obtain⟨a6,c6,rfl⟩:=hO.shape;clear Hrow;have hC8:=hQn _ _ hC7 hb;have hd8:=hd7.below hb;have HvC:=zh (hO.reps (S':=Gd b D x8) (by rw[Rk];omega) (fun m hm=>hd7.new ⟨hF m hm,hO.lt hm⟩) (fun m hm=>hd7.new (hO.block hm)));clear hO hF hb HAl hC7 hd7;generalize hLL:LH [Ar,AW,Ar]=L4 at*;go_simp;refine UH 6 (.tuple #[.agg #[.slice a6 L4.length c6],.int .i64 1,.int .i64 0]) (fun w hSw=>?_) hC8 ?_
  ·go_simp
  simp only[tkS];refine UH 7 (.agg #[.slice a6 L4.length c6]) (fun w hSw=>?_) hC8 ?_
  ·go_simp
  simp only[tkS];refine UH 8 (.int .i64 1) (fun w hSw=>?_) hC8 ?_
  ·go_simp
  simp only[tkS];refine UH 9 (.int .i64 0) (fun w hSw=>?_) hC8 ?_
  ·go_simp
  simp only[tkS];refine aF 10 11 (fun U X=>Az U X (.slice a6 L4.length c6) L4) hQ hC8 hd8 HvC.out (fun U V X Y hb hw h=>(h.below hb).weaken hw) (fun D x9 hC9 HDge hblk h=>?_);clear hC8 hd8 HvC;have HvC:=zh h;clear h;simp only[tkS];refine Or.inl ?_;have g0:=Aa (j:=0) hblk rfl;have f0:=Ad (j:=0) hblk;have hu1:=su D 0 x9 (.slice a6 L4.length c6);have hk1:=sb hblk (.slice a6 L4.length c6);have hQ7:=HQu.out _ _ _ hC9 hu1 (fun b hb=>by omega);have HB:=zh (show Wm D (x9.setCell ⟨D,0,none⟩ (.slice a6 L4.length c6)) L4 from⟨_,_,hk1,(HvC.out.upd hu1 (fun b hb e=>hb.2 e)).weaken fun _ _=>trivial⟩);clear hu1 hk1 HvC;go_wp2_with fail
  first|refine⟨hQ7,?_⟩|skip
  change wpAnyH _ _ _ _ _ _ _ _ (x9.setCell ⟨D,0,none⟩ (.slice a6 L4.length c6));generalize x9.setCell ⟨D,0,none⟩ (.slice a6 L4.length c6)=w7 at*;clear g0 f0 hblk;refine al1 12 ?_;refine Or.inl ?_;go_wp2_with fail
  first|refine⟨hQ7,?_⟩|skip
  refine al1 13 ?_;refine Or.inl ?_;go_wp2_with fail
  first|refine⟨hQ7,?_⟩|skip
  refine wpAnyH_done (by kernel_rfl) ?_ _;have HB2:=zh (hQb _ hQ7);subst hLL;go_wp2_with fail;go_meet;exact⟨_,rfl,rfl,rfl,_,rfl,HB.out,HK3.out.2.1.below HB2.out,Al HK3.out.2.2 HB2.out⟩
 obtain⟨D4,rfl,rfl,rfl,y4,rfl,HK4⟩:=hcut;clear HK3;obtain⟨AU,AX,ra1,rc1,oa1,oc1,ua1,uc1,hbk2,hr2⟩:=HK4.out.2.1;obtain⟨a6,c6,hbk4,hr4⟩:=HK4.out.1;have HF3:=zh WP;have HF6:=zh WS;generalize hRR:Fe Ar AW=RR at*;generalize hLL:LH [Ar,AW,Ar]=L4 at*;have hl4:L4.length=3:=by rw[←hLL];exact Rk
 rw[hl4] at hbk4;obtain⟨a0,n0,cap0,fr,HN0,e0,h1,h2,h3,h4,h5⟩:=hr4.open;rw[hl4] at e0;cases e0;obtain⟨b0,off0,rfl,_,k0,k1,k2,k3,k4,k5,k6⟩:=h4 (by omega);have h51:=h5 1 (by omega);clear h4 h5 hr4 HN0;obtain⟨Q,hQ,hQ1,hQu⟩:=EU y4;have hQb:=hQ.below;have hQn:=hQ.next
 clear hQu;have HB2:=zh (fun x (hx:In Q x)=>Ab hbk2 (hQb _ hx));have HB4:=zh (fun x (hx:In Q x)=>Ab hbk4 (hQb _ hx));have HK:=zh (fun x (hx:In Q x)=>show x.cell? ⟨b0,off0+7,none⟩=some (.slice (fr 1).sa (Ag L4 1).store.length (fr 1).sc)∧x.cell? ⟨b0,off0+7+1,none⟩=some (.slice (fr 1).ra (Ag L4 1).refs.length (fr 1).rc)∧x.cell? ⟨b0,off0+7+2,none⟩=some (.int .i64 (Ag L4 1).gen)∧x.cell? ⟨b0,off0+7+3,none⟩=some (.int .i64 (Ag L4 1).phase)∧x.cell? ⟨b0,off0+7+4,none⟩=some (.slice (fr 1).oa (Ag L4 1).pend.objects.length (fr 1).oc)∧x.cell? ⟨b0,off0+7+5,none⟩=some (.slice (fr 1).ua (Ag L4 1).pend.updates.length (fr 1).uc)∧x.cell? ⟨b0,off0+7+6,none⟩=some (.bool (Ag L4 1).pend.force) from⟨k0 1 x (by omega) (hQb _ hx),k1 1 x (by omega) (hQb _ hx),k2 1 x (by omega) (hQb _ hx),k3 1 x (by omega) (hQb _ hx),k4 1 x (by omega) (hQb _ hx),k5 1 x (by omega) (hQb _ hx),k6 1 x (by omega) (hQb _ hx)⟩);have HR2:=zh (fun x (hx:In Q x)=>hr2.below (hQb _ hx));have HR4:=zh (fun x (hx:In Q x)=>h51.below (hQb _ hx));have HBB:=zh HK4.out.2.2;clear hbk2 hbk4 hr2 h51 HK4 k0 k1 k2 k3 k4 k5 k6 h1 h2 h3;go_wp2_with fail;refine rh (In Q) ?_;have hC0:=hQ.drew _ hQ1;generalize y4.drew=x0 at hC0⊢;clear hQ1;refine tk 0 (.int .i64 0) (fun w hSw=>?_) hC0 ?_
 ·go_simp
 simp only[tkS];refine tk 1 (.bool true) (fun w hSw=>?_) hC0 ?_
 ·go_simp
 simp only[tkS];refine tk 2 (.bool true) (fun w hSw=>?_) hC0 ?_
 ·go_simp
 simp only[tkS];refine tk 3 (.int .i64 4) (fun w hSw=>?_) hC0 ?_
 ·go_simp
 simp only[tkS];refine tk 4 (.bool true) (fun w hSw=>?_) hC0 ?_
 ·go_simp
 simp only[tkS];refine tk 5 (.bool true) (fun w hSw=>?_) hC0 ?_
 ·go_simp
 simp only[tkS];refine tk 6 (.bool true) (fun w hSw=>?_) hC0 ?_
 ·go_simp
 simp only[tkS];refine tk 7 (.int .i64 0) (fun w hSw=>?_) hC0 ?_
 ·go_simp
 simp only[tkS];refine tk 8 (.bool true) (fun w hSw=>?_) hC0 ?_
 ·go_simp
 simp only[tkS];refine tk 9 (.bool true) (fun w hSw=>?_) hC0 ?_
 ·go_simp
 simp only[tkS];refine tk 10 (.bool true) (fun w hSw=>?_) hC0 ?_
 ·go_simp
 simp only[tkS];refine tk 11 (.int .i64 1) (fun w hSw=>?_) hC0 ?_
 ·go_simp
 simp only[tkS];refine tk 12 (.bool true) (fun w hSw=>?_) hC0 ?_
 ·go_simp
 simp only[tkS];refine tk 13 (.bool true) (fun w hSw=>?_) hC0 ?_
 ·go_simp
 simp only[tkS];refine tk 14 (.bool true) (fun w hSw=>?_) hC0 ?_
 ·go_simp
 simp only[tkS];refine tk 15 (.agg #[.slice AU RR.store.length AX,.slice ra1 RR.refs.length rc1,.int .i64 RR.gen,.int .i64 RR.phase,.slice oa1 RR.pend.objects.length oc1,.slice ua1 RR.pend.updates.length uc1,.bool RR.pend.force]) (fun w hSw=>?_) hC0 ?_
 ·have hbk:=HB2.out _ hSw
  obtain⟨y0,y1,y2,y3,y4,y5,y6⟩:=bc7 hbk;clear hbk;go_simp
 simp only[tkS];refine al1 16 ?_;refine Or.inl ?_;go_wp2_with fail;refine(GM _).mono ?_;rintro e x1 ⟨svt,rvt,ovt,uvt,rfl,hv,hb⟩;obtain⟨sah0,sch0,rfl⟩:=hv.store.vshape;obtain⟨⟨rah0,rch0⟩,rfl⟩:=hv.refs.shape;obtain⟨oah0,och0,rfl⟩:=hv.objs.vshape;obtain⟨⟨uah0,uch0⟩,rfl⟩:=hv.upds.shape;have hC1:=hQn _ _ hC0 hb;have Hh:=zh hv;clear hv hb;simp only[AO];go_simp;refine al1 17 ?_;refine Or.inl ?_;have HSm:=zh (Fo RR Ar _ _ _ _ _ _ _ _ _ _ x1 (HR2.out _ hC1) Hh.out);rw[HF3.out] at HSm;simp only[AO] at HSm;go_wp2_with fail;refine HSm.out.mono ?_;rintro e x2 ⟨rfl,hb⟩;have hC2:=hQn _ _ hC1 hb;clear hb HSm Hh;go_simp;refine tk 18 (.bool true) (fun w hSw=>?_) hC2 ?_
 ·go_simp
 simp only[tkS];refine tk 19 (.bool true) (fun w hSw=>?_) hC2 ?_
 ·go_simp
 simp only[tkS];refine tk 20 (.pointer (some ⟨D4,0,none⟩)) (fun w hSw=>?_) hC2 ?_
 ·go_simp
 simp only[tkS];refine tk 21 (.slice (some ⟨b0,off0,none⟩) 3 c6) (fun w hSw=>?_) hC2 ?_
 ·have yy:=Aa (j:=0) (HB4.out _ hSw) rfl;go_simp
 simp only[tkS];refine tk 22 (.int .i64 3) (fun w hSw=>?_) hC2 ?_
 ·go_simp
 simp only[tkS];refine tk 23 (.bool true) (fun w hSw=>?_) hC2 ?_
 ·go_simp
 simp only[tkS];refine tk 24 (.bool true) (fun w hSw=>?_) hC2 ?_
 ·go_simp
 simp only[tkS];refine tk 25 (.bool true) (fun w hSw=>?_) hC2 ?_
 ·go_simp
 simp only[tkS];refine tk 26 (.pointer (some ⟨D4,0,none⟩)) (fun w hSw=>?_) hC2 ?_
 ·go_simp
 simp only[tkS];refine tk 27 (.slice (some ⟨b0,off0,none⟩) 3 c6) (fun w hSw=>?_) hC2 ?_
 ·have yy:=Aa (j:=0) (HB4.out _ hSw) rfl;go_simp
 simp only[tkS];refine tk 28 (.pointer (some ⟨b0,off0+7,none⟩)) (fun w hSw=>?_) hC2 ?_
 ·go_simp
 simp only[tkS];refine tk 29 (.agg #[.slice (fr 1).sa (Ag L4 1).store.length (fr 1).sc,.slice (fr 1).ra (Ag L4 1).refs.length (fr 1).rc,.int .i64 (Ag L4 1).gen,.int .i64 (Ag L4 1).phase,.slice (fr 1).oa (Ag L4 1).pend.objects.length (fr 1).oc,.slice (fr 1).ua (Ag L4 1).pend.updates.length (fr 1).uc,.bool (Ag L4 1).pend.force]) (fun w hSw=>?_) hC2 ?_
 ·obtain⟨y0,y1,y2,y3,y4,y5,y6⟩:=HK.out _ hSw;go_simp
 simp only[tkS];refine al1 30 ?_;refine Or.inl ?_;go_wp2_with fail;refine(GM _).mono ?_;rintro e x3 ⟨svt,rvt,ovt,uvt,rfl,hv,hb⟩;obtain⟨sah1,sch1,rfl⟩:=hv.store.vshape;obtain⟨⟨rah1,rch1⟩,rfl⟩:=hv.refs.shape;obtain⟨oah1,och1,rfl⟩:=hv.objs.vshape;obtain⟨⟨uah1,uch1⟩,rfl⟩:=hv.upds.shape;have hC3:=hQn _ _ hC2 hb;have Hh:=zh hv;clear hv hb;simp only[AO];go_simp;refine al1 31 ?_;refine Or.inl ?_;have HSm:=zh (Fo (Ag L4 1) Ar _ _ _ _ _ _ _ _ _ _ x3 (HR4.out _ hC3) Hh.out);rw[HF6.out] at HSm;simp only[AO] at HSm;go_wp2_with fail;refine HSm.out.mono ?_;rintro e x4 ⟨rfl,hb⟩;have hC4:=hQn _ _ hC3 hb;clear hb HSm Hh;go_simp;refine tk 32 (.bool true) (fun w hSw=>?_) hC4 ?_
 ·go_simp
 simp only[tkS];refine al1 33 ?_;refine Or.inl ?_;go_wp2_with fail
 first|refine⟨hC4,?_⟩|skip
 first|refine⟨by kernel_rfl,?_⟩|refine wpAnyH_done (by kernel_rfl) ?_ _
 have HEnd:=zh (Al HBB.out (hQb _ hC4));go_wp2_with fail;go_ret;exact⟨rfl,HEnd.out⟩
end Go.Proofs.YtgbnlmplkealdaaGreatDoor
