
/- ClusI: walks of forestaylaw. -/
import Derived.Test.YtgbnlmplkealdaaGreatDoorC39
set_option linter.all false
set_option maxHeartbeats 16000000
set_option maxRecDepth 100000
namespace Go.Proofs.YtgbnlmplkealdaaGreatDoor
open Go.RowKit
variable [Ghost]
def XH:ByteArray:=⟨#[109,97,105,110]⟩
def Bt:BM:=⟨DL.take 3,[⟨XH,0,3⟩],false⟩
def Kz:Am:=⟨DL.take 3,[⟨XH,3⟩],1,0,CU⟩
def EI:List Am:=[Kz,Kz,BE]
theorem bJ:KB [BE,BE,BE] Bt 3 0=0:=by decide+kernel
theorem bK:KC [BE,BE,BE] Bt 3 0=EI:=(Cq _ _).1 (by decide+kernel)
theorem bL:KA [BE,BE,BE] Bt 3 0=true:=by decide+kernel
theorem bM:KB EI Bt 7 0=0:=by decide+kernel
theorem bN:KC EI Bt 7 0=EI:=(Cq _ _).1 (by decide+kernel)
theorem bO:KA EI Bt 7 0=false:=by decide+kernel
theorem bQ:KB [BE,BE,BE] Bt 7 3=0:=by decide+kernel
theorem bR:KA [BE,BE,BE] Bt 7 3=false:=by decide+kernel
theorem bC:Bp EI=0:=by decide+kernel
theorem aT:XO EI=0:=by decide+kernel
theorem GL (w:World):Calls Tryz.prog 20 #[] w fun e w'=>Wu w w' e Bt:=by
 have hb0:=(Below.refl w.heap.size w).alloc (Nat.le_refl _) (.cells #[.slice none 0 0,.slice none 0 0,.bool false] 28);have hk0:=heap_alloc_new w (.cells #[.slice none 0 0,.slice none 0 0,.bool false] 28);have hs0:(w.alloc (.cells #[.slice none 0 0,.slice none 0 0,.bool false] 28)).heap.size=w.heap.size+1:=by simp
 have HB0:=zh hb0;have HK0:=zh hk0;have HS0:=zh hs0;clear hb0 hk0 hs0
 go_enter Tryz.func20, Tryz.ntmps20
 go_wp2_with fail;refine(Mf _).mono ?_;rintro e w1 ⟨v1,rfl,hv1,hb1⟩;obtain⟨a1,c1,hcap1,rfl⟩:∃a c,5≤c∧v1=.slice a DL.length c:=let⟨_,⟨a,cap,hv,h1,_⟩,_⟩:=hv1;⟨a,cap,h1,hv⟩;have hT:=hv1.lt.take (i:=3) (by decide);have hc3:(3:Int)≤(c1:Int):=by omega
 rw[HS0.out] at hb1;have hz1:=hb1.size;rw[HS0.out] at hz1;have hk1:=(hb1.block _ (by omega)).trans HK0.out;have hB1:=HB0.out.trans (hb1.mono (by omega));have hU:=QB w1 Bt.updates 88 w1.heap.size rfl (by decide) (fun u hu=>by
  simp only[Bt,List.mem_cons,List.not_mem_nil,or_false] at hu;subst hu;exact⟨AI _ (by decide),AI _ (by decide),by decide⟩)
 have hbU:=(Below.refl w1.heap.size w1).alloc (Nat.le_refl _) (.cells #[.string ⟨#[109,97,105,110]⟩,.int .i64 0,.int .i64 3] 88);have hk2:=(hbU.block _ (by omega)).trans hk1;have hT2:=hT.below hbU;have hB2:=hB1.trans (hbU.mono (by omega));have HT:=zh hT2;have HU:=zh (show AJ (fun b=>b=w1.heap.size) (w1.alloc (.cells #[.string ⟨#[109,97,105,110]⟩,.int .i64 0,.int .i64 3] 88)) (.slice (some ⟨w1.heap.size,0,none⟩) 1 1) Bt.updates from hU);have HB2:=zh hB2;have HK2:=zh hk2;have hz2:(w1.alloc (.cells #[.string ⟨#[109,97,105,110]⟩,.int .i64 0,.int .i64 3] 88)).heap.size=w1.heap.size+1:=by simp
 obtain⟨g0,g1,g2⟩:=bc3 hk2;obtain⟨f0,f1,f2⟩:=bf3 hk2;clear hv1 hT hk1 hB1 hU hbU hk2 hT2 hB2 hb1 HB0 HK0;go_wp2_with fail;change bodyPost _ _ _ _ _ (SB w.heap.size (.slice a1 3 c1) (.slice (some ⟨w1.heap.size,0,none⟩) 1 1) (.bool false) (w1.alloc (.cells #[.string ⟨#[109,97,105,110]⟩,.int .i64 0,.int .i64 3] 88)));generalize w1.alloc (.cells #[.string ⟨#[109,97,105,110]⟩,.int .i64 0,.int .i64 3] 88)=w2 at*;have hb3:=QQ (v0:=.slice a1 3 c1) (v1:=.slice (some ⟨w1.heap.size,0,none⟩) 1 1) (v2:=.bool false) HK2.out;have hu3:=OD w.heap.size (.slice a1 3 c1) (.slice (some ⟨w1.heap.size,0,none⟩) 1 1) (.bool false) w2;generalize SB w.heap.size (.slice a1 3 c1) (.slice (some ⟨w1.heap.size,0,none⟩) 1 1) (.bool false) w2=w3 at*;obtain⟨k0,k1,k2⟩:=bc3 hb3;refine bodyPost_ret (v:=Dn Bt (.slice a1 3 c1) (.slice (some ⟨w1.heap.size,0,none⟩) 1 1)) (by simp[results,Tryz.results20,go_sem];simp[k0,k1,k2];rfl) rfl ⟨_,_,rfl,?_,?_,?_⟩
 ·exact(HT.out.upd' hu3 (fun b hb e=>by have e2:b=w.heap.size:=e;have h1:=hb.1;have h2:=HS0.out;omega)).weaken fun b hb=>by have h1:=hb.1;have h2:=HS0.out;omega
 ·exact(HU.out.upd hu3 (fun b hb e=>by have e2:b=w.heap.size:=e;omega)).weaken fun b hb=>by omega
 ·exact HB2.out.trans (hu3.below (B:=w.heap.size) HB2.out.size (fun b hb=>by have e2:b=w.heap.size:=hb;omega))
theorem LQ (w:World) (ht:Qf w):Calls Tryz.prog 4 #[] w fun e w'=>e=.returned (.bool true)∧Below w.heap.size w w':=by
 have HT:=zh (fun x (hx:Below w.heap.size w x)=>ht.below hx);clear ht
 go_enter Tryz.func4, Tryz.ntmps4
 go_wp2_with fail;refine(Nt _).mono ?_;rintro e w1 ⟨v1,rfl,hv1,hb1⟩;obtain⟨a1,c1,rfl⟩:=hv1.vshape;have HB1:=zh hb1;have Hv1:=zh hv1;clear hv1 hb1;go_wp2_with fail;refine(GL _).mono ?_;rintro e w2 ⟨ov2,uv2,rfl,ho2,hu2,hb2⟩;obtain⟨oa2,oc2,rfl⟩:=ho2.vshape;obtain⟨⟨ua2,uc2⟩,rfl⟩:=hu2.shape;have HB2:=zh (Al HB1.out hb2);have HP:=zh (Ja _ Bt 3 0 _ _ _ _ _ w2 (Hv1.out.below hb2) ⟨ho2.weaken (S':=fun _=>True) (fun _ _=>trivial),hu2.weaken (fun _ _=>trivial)⟩ (HT.out _ HB2.out));rw[bJ,bK,bL] at HP;simp only[Dn] at HP⊢;clear ho2 hu2 hb2 Hv1;go_wp2_with fail;refine HP.out.mono ?_;rintro e w3 ⟨v3,rfl,hv3,hb3⟩;obtain⟨F3,hO3,_⟩:=hv3;have hv3:=hO3.any (by decide);clear hO3;obtain⟨a3,n3,cap3,fr3,HN3,rfl,_,_,_,h43,h53⟩:=hv3.open;obtain rfl:n3=3:=HN3.out;obtain⟨b3,off3,rfl,_,k0,k1,k2,k3,k4,k5,k6⟩:=h43 (by omega);have Hg1:=zh (fun x (hx:Below w3.heap.size w3 x)=>show x.cell? ⟨b3,off3+7+2,none⟩=some (.int .i64 1) from k2 1 x (by decide) hx);have Hg2:=zh (fun x (hx:Below w3.heap.size w3 x)=>show x.cell? ⟨b3,off3+14+2,none⟩=some (.int .i64 0) from k2 2 x (by decide) hx);have HB3:=zh (Al HB2.out hb3);have Hv3:=zh hv3;clear hb3 hv3 h43 h53 HN3 HP k0 k1 k2 k3 k4 k5 k6;obtain⟨T,hT,hT1,HTb0⟩:=BO w3 #[.slice (some ⟨b3,off3,none⟩) 3 cap3] 24;have hTb:=hT.below;have hTn:=hT.next
 have c0:=fun x (hx:In T x)=>HTb0 0 _ rfl x hx
 have HAx:=zh (show∀x,In T x→Below w3.heap.size w3 x from fun x hx=>hTb _ hx);have HBx:=zh (fun x (hx:In T x)=>Al HB3.out (HAx.out x hx));have HPx:=zh (fun x ov uv (hx:In T x) (ho:Ai (fun _=>True) x ov Bt.objects) (hu:AJ (fun _=>True) x uv Bt.updates)=>(show Calls Tryz.prog 18 #[.agg #[.slice (some ⟨b3,off3,none⟩) 3 cap3],Dn Bt ov uv,.int .i64 7,.int .i64 0] x fun e w'=>∃v',e=.returned (.tuple #[.agg #[v'],.bool false,.int .i64 0])∧DP x.heap.size w' v' EI∧Below x.heap.size x w' from by
  have hC:=Ja EI Bt 7 0 _ ov uv _ _ x (Hv3.out.below (HAx.out _ hx)) ⟨ho,hu⟩ (HT.out _ (HBx.out _ hx));rw[bM,bN,bO] at hC;exact hC))
 have cc:=c0 _ hT1;go_upto_region 2 with fail;go_cut [4,5,6] (fun s4 s5 s6 wx=>∃D4,s4=.pointer (some ⟨D4,0,none⟩)∧s5=.bool false∧s6=.int .i64 0∧∃y,y=wx∧Hid (In T y∧∃a4 c4,y.heap[D4]?=some (.cells #[.slice a4 3 c4] 24 (0,0))∧Az (fun _=>True) y (.slice a4 3 c4) EI))
 case first=>
  obtain⟨Q,hQ,hQ1,hQu⟩:=EU (w3.alloc (.cells #[.slice (some ⟨b3,off3,none⟩) 3 cap3] 24));have hQb:=hQ.below;have hQn:=hQ.next
  have HQu:=zh hQu;clear hQu;have HQT:=zh (fun x (hx:In Q x)=>hTn _ _ hT1 (hQb _ hx));have d0:=fun x (hx:In Q x)=>c0 _ (HQT.out x hx)
  clear cc;refine rh (In Q) ?_;have hC0:=hQ.drew _ hQ1;generalize hx0:(w3.alloc (.cells #[.slice (some ⟨b3,off3,none⟩) 3 cap3] 24)).drew=x0 at hC0⊢;clear hx0;refine tk 0 (.agg #[.slice (some ⟨b3,off3,none⟩) 3 cap3]) (fun w hSw=>?_) hC0 ?_
  ·have yy:=d0 _ hSw;go_simp
  simp only[tkS];refine al2 1 7 ?_ ?_
  ·skip
   refine Or.inl ?_;go_wp2_with fail;refine(GL _).mono ?_;rintro e x10 ⟨ov4,uv4,rfl,ho4,hu4,hb0⟩;obtain⟨oa4,oc4,rfl⟩:=ho4.vshape;obtain⟨⟨ua4,uc4⟩,rfl⟩:=hu4.shape;have hC1:=hQn _ _ hC0 hb0;have Hos:=zh (ho4.weaken (S':=fun _=>True) fun _ _=>trivial);have Hom:=zh (hu4.weaken (S':=fun _=>True) fun _ _=>trivial);clear ho4 hu4 hb0;generalize x10=x1 at*;simp only[Dn];go_simp;refine al2 2 7 ?_ ?_
   ·skip
    refine Or.inl ?_;have HP4:=zh (HPx.out _ _ _ (HQT.out _ hC1) Hos.out Hom.out);simp only[Dn] at HP4;clear Hos Hom;go_wp2_with fail;refine HP4.out.mono ?_;rintro e x11 ⟨v4,rfl,hv4,hb0⟩;have hC2:=hQn _ _ hC1 hb0;obtain⟨F4,hO4,hF4⟩:=hv4;obtain⟨a4,c4,hs4⟩:=hO4.shape;replace hs4:v4=.slice a4 3 c4:=hs4;subst hs4;have Hv4:=zh (show Az (fun b=>x1.heap.size≤b) x11 (.slice a4 3 c4) EI from hO4.reps (by decide) hF4 (fun b hb=>(hO4.block hb).1));clear hO4 hF4 hb0 HP4;generalize x11=x2 at*;go_simp;refine tk 3 (.tuple #[.agg #[.slice a4 3 c4],.bool false,.int .i64 0]) (fun w hSw=>?_) hC2 ?_
    ·go_simp
    simp only[tkS];refine tk 4 (.agg #[.slice a4 3 c4]) (fun w hSw=>?_) hC2 ?_
    ·go_simp
    simp only[tkS];refine tk 5 (.bool false) (fun w hSw=>?_) hC2 ?_
    ·go_simp
    simp only[tkS];refine tk 6 (.int .i64 0) (fun w hSw=>?_) hC2 ?_
    ·go_simp
    simp only[tkS];refine al1 7 ?_;refine Or.inl ?_;have hbA0:Below x2.heap.size x2 (x2.alloc (.cells #[.slice none 0 0] 24)):=bal;have Hv5:=zh ((Hv4.out.low.below hbA0).weaken (S':=fun b=>b≠x2.heap.size) fun b hb e=>by have:=hb.2;omega);clear Hv4 hbA0;have hC3:=hQ.alloc _ (.cells #[.slice none 0 0] 24) hC2;go_simp;have hbA:Below x2.heap.size x2 (x2.alloc (.cells #[.slice none 0 0] 24)):=bal;have HDb:=zh (heap_alloc_new x2 (.cells #[.slice none 0 0] 24));have HDge:=zh (hQb _ hC2).size;clear hbA;generalize x2.heap.size=D at*;generalize x2.alloc (.cells #[.slice none 0 0] 24)=x3 at*;refine al1 8 ?_;refine Or.inl ?_;have gz:=Aa (j:=0) HDb.out rfl;have fz:=Ad (j:=0) HDb.out;have Hu7:=zh (su D 0 x3 (.slice a4 3 c4));have Hb7:=zh (Ah (j:=0) HDb.out (.slice a4 3 c4));have hQ7:=HQu.out _ _ _ hC3 Hu7.out (fun b hb=>by have:=HDge.out;have e2:b=D:=hb;omega);have Hv7:=zh ((Hv5.out.upd Hu7.out (fun b hb e=>hb e)).weaken (S':=fun _=>True) fun _ _=>trivial);go_wp2_with fail
    first|refine⟨hQ7,?_⟩|skip
    change wpAnyH _ _ _ _ _ _ _ _ (x3.setCell ⟨D,0,none⟩ (.slice a4 3 c4));generalize x3.setCell ⟨D,0,none⟩ (.slice a4 3 c4)=w7 at*;clear gz fz Hu7;refine tk 9 (.bool false) (fun w hSw=>?_) hQ7 ?_
    ·go_simp
    simp only[tkS];refine al1 10 ?_;refine Or.inl ?_;go_wp2_with fail
    first|refine⟨hQ7,by kernel_rfl,?_⟩|refine⟨by kernel_rfl,?_⟩
    have HEnd:=zh (show In T w7∧∃a4 c4,w7.heap[D]?=some (.cells #[.slice a4 3 c4] 24 (0,0))∧Az (fun _=>True) w7 (.slice a4 3 c4) EI from⟨HQT.out _ hQ7,a4,c4,Hb7.out,Hv7.out⟩);go_wp2_with fail;go_meet;exact⟨D,rfl,rfl,rfl,w7,rfl,HEnd⟩
   refine Or.inl ?_;have hC2:=hQ.alloc _ (.cells #[.slice none 0 0] 24) hC1;go_simp;have hbA:Below x1.heap.size x1 (x1.alloc (.cells #[.slice none 0 0] 24)):=bal;have HDb:=zh (heap_alloc_new x1 (.cells #[.slice none 0 0] 24));have HDge:=zh (hQb _ hC1).size;replace Hos:=zh (Hos.out.below hbA);replace Hom:=zh (Hom.out.below hbA);clear hbA;generalize x1.heap.size=D at*;generalize x1.alloc (.cells #[.slice none 0 0] 24)=x2 at*;refine al1 2 ?_;refine Or.inl ?_;have HP4:=zh (HPx.out _ _ _ (HQT.out _ hC2) Hos.out Hom.out);simp only[Dn] at HP4;clear Hos Hom;go_wp2_with fail;refine HP4.out.mono ?_;rintro e x12 ⟨v4,rfl,hv4,hb0⟩;have hC3:=hQn _ _ hC2 hb0;obtain⟨F4,hO4,hF4⟩:=hv4;obtain⟨a4,c4,hs4⟩:=hO4.shape;replace hs4:v4=.slice a4 3 c4:=hs4;subst hs4;have Hv4:=zh (show Az (fun b=>x2.heap.size≤b) x12 (.slice a4 3 c4) EI from hO4.reps (by decide) hF4 (fun b hb=>(hO4.block hb).1));have HDx:=zh (show D<x2.heap.size from lt_of_block HDb.out);replace HDb:=zh (Ab HDb.out hb0);have Hv5:=zh (Hv4.out.weaken (S':=fun b=>b≠D) fun b hb e=>by have:=HDx.out;omega);clear Hv4;clear hO4 hF4 hb0 HP4;generalize x12=x3 at*;go_simp;refine tk 3 (.tuple #[.agg #[.slice a4 3 c4],.bool false,.int .i64 0]) (fun w hSw=>?_) hC3 ?_
   ·go_simp
   simp only[tkS];refine tk 4 (.agg #[.slice a4 3 c4]) (fun w hSw=>?_) hC3 ?_
   ·go_simp
   simp only[tkS];refine tk 5 (.bool false) (fun w hSw=>?_) hC3 ?_
   ·go_simp
   simp only[tkS];refine tk 6 (.int .i64 0) (fun w hSw=>?_) hC3 ?_
   ·go_simp
   simp only[tkS];refine al1 8 ?_;refine Or.inl ?_;have gz:=Aa (j:=0) HDb.out rfl;have fz:=Ad (j:=0) HDb.out;have Hu7:=zh (su D 0 x3 (.slice a4 3 c4));have Hb7:=zh (Ah (j:=0) HDb.out (.slice a4 3 c4));have hQ7:=HQu.out _ _ _ hC3 Hu7.out (fun b hb=>by have:=HDge.out;have e2:b=D:=hb;omega);have Hv7:=zh ((Hv5.out.upd Hu7.out (fun b hb e=>hb e)).weaken (S':=fun _=>True) fun _ _=>trivial);go_wp2_with fail
   first|refine⟨hQ7,?_⟩|skip
   change wpAnyH _ _ _ _ _ _ _ _ (x3.setCell ⟨D,0,none⟩ (.slice a4 3 c4));generalize x3.setCell ⟨D,0,none⟩ (.slice a4 3 c4)=w7 at*;clear gz fz Hu7;refine tk 9 (.bool false) (fun w hSw=>?_) hQ7 ?_
   ·go_simp
   simp only[tkS];refine al1 10 ?_;refine Or.inl ?_;go_wp2_with fail
   first|refine⟨hQ7,by kernel_rfl,?_⟩|refine⟨by kernel_rfl,?_⟩
   have HEnd:=zh (show In T w7∧∃a4 c4,w7.heap[D]?=some (.cells #[.slice a4 3 c4] 24 (0,0))∧Az (fun _=>True) w7 (.slice a4 3 c4) EI from⟨HQT.out _ hQ7,a4,c4,Hb7.out,Hv7.out⟩);go_wp2_with fail;go_meet;exact⟨D,rfl,rfl,rfl,w7,rfl,HEnd⟩
  refine Or.inl ?_;have hC1:=hQ.alloc _ (.cells #[.slice none 0 0] 24) hC0;go_simp;have hbA:Below x0.heap.size x0 (x0.alloc (.cells #[.slice none 0 0] 24)):=bal;have HDb:=zh (heap_alloc_new x0 (.cells #[.slice none 0 0] 24));have HDge:=zh (hQb _ hC0).size;clear hbA;generalize x0.heap.size=D at*;generalize x0.alloc (.cells #[.slice none 0 0] 24)=x1 at*;refine al1 1 ?_;refine Or.inl ?_;go_wp2_with fail;refine(GL _).mono ?_;rintro e x11 ⟨ov4,uv4,rfl,ho4,hu4,hb0⟩;obtain⟨oa4,oc4,rfl⟩:=ho4.vshape;obtain⟨⟨ua4,uc4⟩,rfl⟩:=hu4.shape;have hC2:=hQn _ _ hC1 hb0;replace HDb:=zh (Ab HDb.out hb0);have Hos:=zh (ho4.weaken (S':=fun _=>True) fun _ _=>trivial);have Hom:=zh (hu4.weaken (S':=fun _=>True) fun _ _=>trivial);clear ho4 hu4 hb0;generalize x11=x2 at*;simp only[Dn];go_simp;refine al1 2 ?_;refine Or.inl ?_;have HP4:=zh (HPx.out _ _ _ (HQT.out _ hC2) Hos.out Hom.out);simp only[Dn] at HP4;clear Hos Hom;go_wp2_with fail;refine HP4.out.mono ?_;rintro e x12 ⟨v4,rfl,hv4,hb0⟩;have hC3:=hQn _ _ hC2 hb0;obtain⟨F4,hO4,hF4⟩:=hv4;obtain⟨a4,c4,hs4⟩:=hO4.shape;replace hs4:v4=.slice a4 3 c4:=hs4;subst hs4;have Hv4:=zh (show Az (fun b=>x2.heap.size≤b) x12 (.slice a4 3 c4) EI from hO4.reps (by decide) hF4 (fun b hb=>(hO4.block hb).1));have HDx:=zh (show D<x2.heap.size from lt_of_block HDb.out);replace HDb:=zh (Ab HDb.out hb0);have Hv5:=zh (Hv4.out.weaken (S':=fun b=>b≠D) fun b hb e=>by have:=HDx.out;omega);clear Hv4
  clear hO4 hF4 hb0 HP4;generalize x12=x3 at*;go_simp;refine tk 3 (.tuple #[.agg #[.slice a4 3 c4],.bool false,.int .i64 0]) (fun w hSw=>?_) hC3 ?_
  ·go_simp
  simp only[tkS];refine tk 4 (.agg #[.slice a4 3 c4]) (fun w hSw=>?_) hC3 ?_
  ·go_simp
  simp only[tkS];refine tk 5 (.bool false) (fun w hSw=>?_) hC3 ?_
  ·go_simp
  simp only[tkS];refine tk 6 (.int .i64 0) (fun w hSw=>?_) hC3 ?_
  ·go_simp
  simp only[tkS];refine al1 8 ?_;refine Or.inl ?_;have gz:=Aa (j:=0) HDb.out rfl;have fz:=Ad (j:=0) HDb.out;have Hu7:=zh (su D 0 x3 (.slice a4 3 c4));have Hb7:=zh (Ah (j:=0) HDb.out (.slice a4 3 c4));have hQ7:=HQu.out _ _ _ hC3 Hu7.out (fun b hb=>by have:=HDge.out;have e2:b=D:=hb;omega);have Hv7:=zh ((Hv5.out.upd Hu7.out (fun b hb e=>hb e)).weaken (S':=fun _=>True) fun _ _=>trivial);go_wp2_with fail
  first|refine⟨hQ7,?_⟩|skip
  change wpAnyH _ _ _ _ _ _ _ _ (x3.setCell ⟨D,0,none⟩ (.slice a4 3 c4));generalize x3.setCell ⟨D,0,none⟩ (.slice a4 3 c4)=w7 at*;clear gz fz Hu7;refine tk 9 (.bool false) (fun w hSw=>?_) hQ7 ?_
  ·go_simp
  simp only[tkS];refine al1 10 ?_;refine Or.inl ?_;go_wp2_with fail
  first|refine⟨hQ7,by kernel_rfl,?_⟩|refine⟨by kernel_rfl,?_⟩
  have HEnd:=zh (show In T w7∧∃a4 c4,w7.heap[D]?=some (.cells #[.slice a4 3 c4] 24 (0,0))∧Az (fun _=>True) w7 (.slice a4 3 c4) EI from⟨HQT.out _ hQ7,a4,c4,Hb7.out,Hv7.out⟩);go_wp2_with fail;go_meet;exact⟨D,rfl,rfl,rfl,w7,rfl,HEnd⟩
 obtain⟨D4,rfl,rfl,rfl,y4,rfl,HK4⟩:=hcut;obtain⟨hT4,a4,c4,hD4,hv4⟩:=HK4.out;have HD4:=zh hD4;have Hv4:=zh hv4;clear HK4 hD4 hv4 cc;go_wp2_with fail;refine(Nt _).mono ?_;rintro e w5 ⟨v5,rfl,hv5,hb5⟩;obtain⟨a5,c5,rfl⟩:=hv5.vshape;have hT5:=hTn _ _ hT4 hb5;have HD5:=zh (Ab HD4.out hb5);have Hv45:=zh (Hv4.out.below hb5);have Hv5:=zh hv5;clear hv5 hb5 HD4 Hv4;go_wp2_with fail;refine(GL _).mono ?_;rintro e w6 ⟨ov6,uv6,rfl,ho6,hu6,hb6⟩;obtain⟨oa6,oc6,rfl⟩:=ho6.vshape;obtain⟨⟨ua6,uc6⟩,rfl⟩:=hu6.shape;have hT6:=hTn _ _ hT5 hb6;have HP:=zh (Ja _ Bt 7 3 _ _ _ _ _ w6 (Hv5.out.below hb6) ⟨ho6.weaken (S':=fun _=>True) (fun _ _=>trivial),hu6.weaken (fun _ _=>trivial)⟩ (HT.out _ (HBx.out _ hT6)));rw[bQ,bR] at HP;simp only[Dn] at HP⊢;have HD6:=zh (Ab HD5.out hb6);have Hv46:=zh (Hv45.out.below hb6);clear ho6 hu6 hb6 Hv5 HD5 Hv45;go_wp2_with fail;refine HP.out.mono ?_;rintro e w7 ⟨v7,rfl,hv7,hb7⟩;obtain⟨F7,hO7,_⟩:=hv7;obtain⟨a7,c7,rfl⟩:=hO7.shape;have hT7:=hTn _ _ hT6 hb7;have HD7:=zh (Ab HD6.out hb7);have Hv47:=zh (Hv46.out.below hb7);clear hO7 hb7 HP HD6 Hv46;generalize (KC [BE,BE,BE] Bt 7 3).length=n7 at*;have hT8:=hT.alloc _ (.cells #[.slice a7 n7 c7] 24) hT7;have hbA:Below w7.heap.size w7 (w7.alloc (.cells #[.slice a7 n7 c7] 24)):=bal;have HD8:=zh (Ab HD7.out hbA);have Hv48:=zh (Hv47.out.below hbA);clear hbA HD7 Hv47;have cc:=c0 _ hT8;have HNw:=zh (fun x (hx:In T x)=>Ky EI _ _ x (Hv3.out.below (HAx.out _ hx)));rw[bC,aT] at HNw;have HCk:=zh (fun x (hx:In T x)=>Fv EI _ _ x (Hv3.out.below (HAx.out _ hx)))
 rw[bC] at HCk;go_wp2_with fail;refine(HNw.out _ hT8).mono ?_;rintro e w9 ⟨rfl,hb9⟩;have hT9:=hTn _ _ hT8 hb9;have HD9:=zh (Ab HD8.out hb9);have Hv49:=zh (Hv48.out.below hb9);clear hb9 HD8 Hv48 cc;have cc:=c0 _ hT9;go_wp2_with fail;refine(HCk.out _ hT9).mono ?_;rintro e w10 ⟨rfl,hb10⟩;have hT10:=hTn _ _ hT9 hb10;have HD10:=zh (Ab HD9.out hb10);have Hv410:=zh (Hv49.out.below hb10);clear hb10 HD9 Hv49 cc;have cc:=c0 _ hT10;have dd:=Aa (j:=0) HD10.out rfl;have y1:=Hg1.out _ (HAx.out _ hT10);have y2:=Hg2.out _ (HAx.out _ hT10);have HS:=zh (Eg EI EI _ _ _ _ w10 (Hv3.out.below (HAx.out _ hT10)) Hv410.out);rw[(Cq _ _).2 rfl] at HS;go_wp2_with fail;refine HS.out.mono ?_;rintro e w11 ⟨rfl,hb11⟩;have HE:=zh (HBx.out _ (hTn _ _ hT10 hb11));clear hb11;go_wp2_with fail;go_ret;exact⟨rfl,HE.out⟩
variable [Ghost]
def bB:ByteArray:=⟨#[98]⟩
def bP:BM:=⟨[],[⟨bB,0,3⟩],false⟩
def Kg:Ac:=⟨1,0,7,4,Bt⟩
def AU:Ac:=⟨1,0,6,0,bP⟩
def KF:Ac:=⟨2,2,0,0,CU⟩
def ZX:Ac:=⟨3,3,0,0,CU⟩
def Bs:List Ac:=[Kg,AU,KF,AU,ZX]
def aN:Am:=⟨DL.take 3,[⟨bB,3⟩,⟨XH,3⟩],2,0,CU⟩
def GJ:List Am:=[Kz,aN,aN]
theorem AX:Ff Vv Kg=EI:=(Cq _ _).1 (by decide+kernel)
theorem MH:Ff EI AU=EI:=(Cq _ _).1 (by decide+kernel)
theorem ZY:Ff EI KF=[Kz,Kz,Kz]:=(Cq _ _).1 (by decide+kernel)
theorem bS:Ff [Kz,Kz,Kz] AU=GJ:=(Cq _ _).1 (by decide+kernel)
theorem Ek:Ff GJ ZX=GJ:=(Cq _ _).1 (by decide+kernel)
theorem bU:Fi Vv Kg=true:=by decide+kernel
theorem bV:Fi EI AU=false:=by decide+kernel
theorem bW:Fi EI KF=true:=by decide+kernel
theorem bX:Fi [Kz,Kz,Kz] AU=true:=by decide+kernel
theorem bY:Fi GJ ZX=false:=by decide+kernel
theorem bT:Dt GJ ZX=3:=by decide+kernel
theorem sd:QV GJ ⟨2,0,0,0,CU⟩=0∧Wj GJ ⟨2,0,0,0,CU⟩=true∧(QW GJ ⟨2,0,0,0,CU⟩).length=3∧(Ag (QW GJ ⟨2,0,0,0,CU⟩) 0).gen=2:=by decide+kernel
theorem ss:Bp GJ=0∧Yj GJ=⟨#[50,58,98,61,51,59,109,97,105,110,61,51,59]⟩:=by decide+kernel
theorem aJ:EB Bs 1=EI:=AX
theorem aK:EB Bs 2=EI:=by rw[show EB Bs 2=Ff (EB Bs 1) AU from rfl,aJ,MH]
theorem aL:EB Bs 3=[Kz,Kz,Kz]:=by rw[show EB Bs 3=Ff (EB Bs 2) KF from rfl,aK,ZY]
theorem ZW:EB Bs 4=GJ:=by rw[show EB Bs 4=Ff (EB Bs 3) AU from rfl,aL,bS]
theorem aX:EB Bs 5=GJ:=by rw[show EB Bs 5=Ff (EB Bs 4) ZX from rfl,ZW,Ek]
theorem aY:Sv Bs 5=[true,false,true,true,false]:=by
 show[Fi Vv Kg]++[Fi (EB Bs 1) AU]++[Fi (EB Bs 2) KF]++[Fi (EB Bs 3) AU]++[Fi (EB Bs 4) ZX]=_
 rw[aJ,aK,aL,ZW,bU,bV,bW,bX,bY];rfl
theorem aZ:∃l:List Int,l.length=4∧Me Bs 5=l++[3]:=⟨Me Bs 4,MB _ _,by rw[show Me Bs 5=Me Bs 4++[Dt (EB Bs 4) ZX] from rfl,ZW,bT]⟩
theorem TS (w:World):Calls Tryz.prog 23 #[] w fun e w'=>∃v,e=.returned v∧GD (fun b=>w.heap.size≤b) w' v Bs∧Below w.heap.size w w':=by
 go_enter Tryz.func23, Tryz.ntmps23
 go_wp2_with fail;refine(GL _).mono ?_;rintro e w1 ⟨ov,uv,rfl,ho,hu,hb1⟩;obtain⟨oa,oc,rfl⟩:=ho.vshape;obtain⟨⟨ua,uc⟩,rfl⟩:=hu.shape;have Ho:=zh ho;have Hu:=zh hu;have HB1:=zh hb1;clear ho hu hb1;simp only[Dn,show Bt.force=false from rfl];go_wp2_with fail;have hz1:(w1.alloc (.cells #[.string ⟨#[98]⟩,.int .i64 0,.int .i64 3] 88)).heap.size=w1.heap.size+1:=by simp
 have hz2:((w1.alloc (.cells #[.string ⟨#[98]⟩,.int .i64 0,.int .i64 3] 88)).alloc (.cells #[.string ⟨#[98]⟩,.int .i64 0,.int .i64 3] 88)).heap.size=w1.heap.size+1+1:=by simp
 have hU1:AJ (fun b=>b=w1.heap.size) (w1.alloc (.cells #[.string ⟨#[98]⟩,.int .i64 0,.int .i64 3] 88)) (.slice (some ⟨w1.heap.size,0,none⟩) 1 1) bP.updates:=QB w1 bP.updates 88 w1.heap.size rfl (by decide) (fun u hu=>by
  simp only[bP,List.mem_cons,List.not_mem_nil,or_false] at hu;subst hu;exact⟨AI _ (by decide),AI _ (by decide),by decide⟩)
 have hU2:AJ (fun b=>b=w1.heap.size+1) ((w1.alloc (.cells #[.string ⟨#[98]⟩,.int .i64 0,.int .i64 3] 88)).alloc (.cells #[.string ⟨#[98]⟩,.int .i64 0,.int .i64 3] 88)) (.slice (some ⟨w1.heap.size+1,0,none⟩) 1 1) bP.updates:=QB (w1.alloc (.cells #[.string ⟨#[98]⟩,.int .i64 0,.int .i64 3] 88)) bP.updates 88 (w1.heap.size+1) hz1.symm (by decide) (fun u hu=>by
  simp only[bP,List.mem_cons,List.not_mem_nil,or_false] at hu;subst hu;exact⟨AI _ (by decide),AI _ (by decide),by decide⟩)
 have hX:=heap_alloc_new ((w1.alloc (.cells #[.string ⟨#[98]⟩,.int .i64 0,.int .i64 3] 88)).alloc (.cells #[.string ⟨#[98]⟩,.int .i64 0,.int .i64 3] 88)) (.cells #[.int .i64 1,.int .i64 0,.int .i64 7,.int .i64 4,.slice oa Bt.objects.length oc,.slice ua Bt.updates.length uc,.bool false,.int .i64 1,.int .i64 0,.int .i64 6,.int .i64 0,.slice none 0 0,.slice (some ⟨w1.heap.size,0,none⟩) 1 1,.bool false,.int .i64 2,.int .i64 2,.int .i64 0,.int .i64 0,.slice none 0 0,.slice none 0 0,.bool false,.int .i64 1,.int .i64 0,.int .i64 6,.int .i64 0,.slice none 0 0,.slice (some ⟨w1.heap.size+1,0,none⟩) 1 1,.bool false,.int .i64 3,.int .i64 3,.int .i64 0,.int .i64 0,.slice none 0 0,.slice none 0 0,.bool false] 30);rw[hz2] at hX;have hbU:Below w1.heap.size w1 (w1.alloc (.cells #[.string ⟨#[98]⟩,.int .i64 0,.int .i64 3] 88)):=bal;have hbV:Below (w1.heap.size+1) (w1.alloc (.cells #[.string ⟨#[98]⟩,.int .i64 0,.int .i64 3] 88)) (((w1.alloc (.cells #[.string ⟨#[98]⟩,.int .i64 0,.int .i64 3] 88)).alloc (.cells #[.string ⟨#[98]⟩,.int .i64 0,.int .i64 3] 88)).alloc (.cells #[.int .i64 1,.int .i64 0,.int .i64 7,.int .i64 4,.slice oa Bt.objects.length oc,.slice ua Bt.updates.length uc,.bool false,.int .i64 1,.int .i64 0,.int .i64 6,.int .i64 0,.slice none 0 0,.slice (some ⟨w1.heap.size,0,none⟩) 1 1,.bool false,.int .i64 2,.int .i64 2,.int .i64 0,.int .i64 0,.slice none 0 0,.slice none 0 0,.bool false,.int .i64 1,.int .i64 0,.int .i64 6,.int .i64 0,.slice none 0 0,.slice (some ⟨w1.heap.size+1,0,none⟩) 1 1,.bool false,.int .i64 3,.int .i64 3,.int .i64 0,.int .i64 0,.slice none 0 0,.slice none 0 0,.bool false] 30)):=((Below.refl _ _).alloc (by omega) _).alloc (by omega) _
 have hbW:Below (w1.heap.size+1+1) ((w1.alloc (.cells #[.string ⟨#[98]⟩,.int .i64 0,.int .i64 3] 88)).alloc (.cells #[.string ⟨#[98]⟩,.int .i64 0,.int .i64 3] 88)) (((w1.alloc (.cells #[.string ⟨#[98]⟩,.int .i64 0,.int .i64 3] 88)).alloc (.cells #[.string ⟨#[98]⟩,.int .i64 0,.int .i64 3] 88)).alloc (.cells #[.int .i64 1,.int .i64 0,.int .i64 7,.int .i64 4,.slice oa Bt.objects.length oc,.slice ua Bt.updates.length uc,.bool false,.int .i64 1,.int .i64 0,.int .i64 6,.int .i64 0,.slice none 0 0,.slice (some ⟨w1.heap.size,0,none⟩) 1 1,.bool false,.int .i64 2,.int .i64 2,.int .i64 0,.int .i64 0,.slice none 0 0,.slice none 0 0,.bool false,.int .i64 1,.int .i64 0,.int .i64 6,.int .i64 0,.slice none 0 0,.slice (some ⟨w1.heap.size+1,0,none⟩) 1 1,.bool false,.int .i64 3,.int .i64 3,.int .i64 0,.int .i64 0,.slice none 0 0,.slice none 0 0,.bool false] 30)):=(Below.refl _ _).alloc (by omega) _;have hb:=hbU.trans (hbV.mono (by omega));have H1:=zh (show AJ (fun b=>b=w1.heap.size) (((w1.alloc (.cells #[.string ⟨#[98]⟩,.int .i64 0,.int .i64 3] 88)).alloc (.cells #[.string ⟨#[98]⟩,.int .i64 0,.int .i64 3] 88)).alloc (.cells #[.int .i64 1,.int .i64 0,.int .i64 7,.int .i64 4,.slice oa Bt.objects.length oc,.slice ua Bt.updates.length uc,.bool false,.int .i64 1,.int .i64 0,.int .i64 6,.int .i64 0,.slice none 0 0,.slice (some ⟨w1.heap.size,0,none⟩) 1 1,.bool false,.int .i64 2,.int .i64 2,.int .i64 0,.int .i64 0,.slice none 0 0,.slice none 0 0,.bool false,.int .i64 1,.int .i64 0,.int .i64 6,.int .i64 0,.slice none 0 0,.slice (some ⟨w1.heap.size+1,0,none⟩) 1 1,.bool false,.int .i64 3,.int .i64 3,.int .i64 0,.int .i64 0,.slice none 0 0,.slice none 0 0,.bool false] 30)) (.slice (some ⟨w1.heap.size,0,none⟩) 1 1) bP.updates from AJ.below hU1 (by rw[hz1];exact hbV))
 have H2:=zh (show AJ (fun b=>b=w1.heap.size+1) (((w1.alloc (.cells #[.string ⟨#[98]⟩,.int .i64 0,.int .i64 3] 88)).alloc (.cells #[.string ⟨#[98]⟩,.int .i64 0,.int .i64 3] 88)).alloc (.cells #[.int .i64 1,.int .i64 0,.int .i64 7,.int .i64 4,.slice oa Bt.objects.length oc,.slice ua Bt.updates.length uc,.bool false,.int .i64 1,.int .i64 0,.int .i64 6,.int .i64 0,.slice none 0 0,.slice (some ⟨w1.heap.size,0,none⟩) 1 1,.bool false,.int .i64 2,.int .i64 2,.int .i64 0,.int .i64 0,.slice none 0 0,.slice none 0 0,.bool false,.int .i64 1,.int .i64 0,.int .i64 6,.int .i64 0,.slice none 0 0,.slice (some ⟨w1.heap.size+1,0,none⟩) 1 1,.bool false,.int .i64 3,.int .i64 3,.int .i64 0,.int .i64 0,.slice none 0 0,.slice none 0 0,.bool false] 30)) (.slice (some ⟨w1.heap.size+1,0,none⟩) 1 1) bP.updates from AJ.below hU2 (by rw[hz2];exact hbW));have Hb:=zh hb;have HX:=zh hX;have hw1:=HB1.out.size;clear hU1 hU2 hX hbU hbV hbW hb hz1 hz2;go_ret;generalize (((w1.alloc (.cells #[.string ⟨#[98]⟩,.int .i64 0,.int .i64 3] 88)).alloc (.cells #[.string ⟨#[98]⟩,.int .i64 0,.int .i64 3] 88)).alloc (.cells #[.int .i64 1,.int .i64 0,.int .i64 7,.int .i64 4,.slice oa Bt.objects.length oc,.slice ua Bt.updates.length uc,.bool false,.int .i64 1,.int .i64 0,.int .i64 6,.int .i64 0,.slice none 0 0,.slice (some ⟨w1.heap.size,0,none⟩) 1 1,.bool false,.int .i64 2,.int .i64 2,.int .i64 0,.int .i64 0,.slice none 0 0,.slice none 0 0,.bool false,.int .i64 1,.int .i64 0,.int .i64 6,.int .i64 0,.slice none 0 0,.slice (some ⟨w1.heap.size+1,0,none⟩) 1 1,.bool false,.int .i64 3,.int .i64 3,.int .i64 0,.int .i64 0,.slice none 0 0,.slice none 0 0,.bool false] 30))=x at*
 refine⟨_,rfl,⟨fun i=>if i=0 then⟨.slice oa Bt.objects.length oc,.slice ua Bt.updates.length uc⟩ else if i=1 then⟨.slice none 0 0,.slice (some ⟨w1.heap.size,0,none⟩) 1 1⟩ else if i=3 then⟨.slice none 0 0,.slice (some ⟨w1.heap.size+1,0,none⟩) 1 1⟩ else⟨.slice none 0 0,.slice none 0 0⟩,⟨_,5,rfl,by decide,by decide,by decide,fun _=>⟨_,0,rfl,⟨by omega,MX.of_block HX.out⟩,fun i hi j u hu=>?_⟩⟩,fun i hi=>?_⟩,HB1.out.trans (Hb.out.mono (by omega))⟩
 ·have hj:j<7:=by
   rcases Nat.lt_or_ge j 7 with h|h
   ·exact h
   ·rw[List.getElem?_eq_none (by simpa[ZD] using h)] at hu;cases hu
  have h1:i=0∨i=1∨i=2∨i=3∨i=4:=by have:i<5:=hi;omega
  have h2:j=0∨j=1∨j=2∨j=3∨j=4∨j=5∨j=6:=by omega
  rcases h1 with rfl|rfl|rfl|rfl|rfl<;>rcases h2 with rfl|rfl|rfl|rfl|rfl|rfl|rfl<;>(cases hu;exact Aa HX.out rfl)
 ·have h1:i=0∨i=1∨i=2∨i=3∨i=4:=by have:i<5:=hi;omega
  have hp0:Ai (fun b=>w.heap.size≤b) x (.slice none 0 0) []:=Ai.nil _ _ _ _ (by omega);have hp1:AJ (fun b=>w.heap.size≤b) x (.slice none 0 0) []:=AJ.nil _ _ _ _ (by omega);rcases h1 with rfl|rfl|rfl|rfl|rfl
  ·exact⟨(Ho.out.below Hb.out).weaken fun b hb=>hb,(Hu.out.below Hb.out).weaken fun b hb=>hb,AI _ (by decide),AI _ (by decide),AI _ (by decide),AI _ (by decide)⟩
  ·exact⟨hp0,H1.out.weaken fun b hb=>by omega,AI _ (by decide),AI _ (by decide),AI _ (by decide),AI _ (by decide)⟩
  ·exact⟨hp0,hp1,AI _ (by decide),AI _ (by decide),AI _ (by decide),AI _ (by decide)⟩
  ·exact⟨hp0,H2.out.weaken fun b hb=>by omega,AI _ (by decide),AI _ (by decide),AI _ (by decide),AI _ (by decide)⟩
  ·exact⟨hp0,hp1,AI _ (by decide),AI _ (by decide),AI _ (by decide),AI _ (by decide)⟩
theorem UA {w:World} {B n:Nat} {e:TypeId} {v:Value} {zs:List Value} (h:w.ownsRow B e 1 v n zs) (hn:0<n):
  ∃g cap,v=.slice (some ⟨g,0,none⟩) n cap∧∀(x:World) (i:Nat) (u:Value),Below w.heap.size w x→zs[i]?=some u→x.cell? ⟨g,i,none⟩=some u:=by
 rcases h.2 with⟨rfl,rfl⟩|⟨g,cap,cur,rfl,_,hg,_⟩
 ·omega
 ·refine⟨g,cap,rfl,fun x i u hx hu=>Ae hx ?_⟩
  have:=h.cells (g:=g) rfl i u hu;by_cases h0:i=0
  ·subst h0;exact this
  ·simpa[Addr.add,h0] using this
theorem OY (w:World) (ht:Qf w):Calls Tryz.prog 5 #[] w fun e w'=>e=.returned (.bool true)∧Below w.heap.size w w':=by
 have HT:=zh (fun x (hx:Below w.heap.size w x)=>ht.below hx);clear ht
 go_enter Tryz.func5, Tryz.ntmps5
 go_wp2_with fail;refine(TS _).mono ?_;rintro e w1 ⟨v,rfl,hv,hb1⟩;have HB1:=zh hb1;have HR:=zh (Mo Bs v _ w1 hv (HT.out _ hb1));obtain⟨va,vc,rfl⟩:=hv.vshape;rw[show Zp Bs=0 from rfl] at HR;clear hv hb1;go_wp2_with fail;refine HR.out.mono ?_;rintro e w2 ⟨cv,tv,dv,rfl,hrv,hb2⟩;have hc0:Az (fun b=>w1.heap.size≤b) w2 cv GJ:=by
  have h1:=hrv.clu;rw[show Zo Bs=GJ from(if_pos (by decide)).trans aX] at h1;exact h1
 have ht0:w2.ownsRow w1.heap.size 4 1 tv 5 [.bool true,.bool false,.bool true,.bool true,.bool false]:=by
  have h1:=hrv.told;rw[show Pn Bs=5 from rfl,aY] at h1;exact h1
 obtain⟨le,hle,e5⟩:=aZ;have hd0:w2.ownsRow w1.heap.size 37 1 dv 5 (le.map (.int .i64)++[.int .i64 3]):=by
  have h1:=hrv.done;rw[show Pn Bs=5 from rfl,e5,List.map_append] at h1;exact h1
 have HB2:=zh (Al HB1.out hb2);obtain⟨gt,ct,rfl,hgt⟩:=UA ht0 (by decide);obtain⟨gd,cd,rfl,hgd⟩:=UA hd0 (by decide);obtain⟨ca,cc,rfl⟩:=hc0.vshape;have Hc0:=zh (show Az (fun b=>w1.heap.size≤b) w2 (.slice ca GJ.length cc) GJ from hc0);have T0:=zh (fun x (hx:Below w2.heap.size w2 x)=>hgt x 0 _ hx rfl);have T1:=zh (fun x (hx:Below w2.heap.size w2 x)=>hgt x 1 _ hx rfl);have T2:=zh (fun x (hx:Below w2.heap.size w2 x)=>hgt x 2 _ hx rfl);have T3:=zh (fun x (hx:Below w2.heap.size w2 x)=>hgt x 3 _ hx rfl);have T4:=zh (fun x (hx:Below w2.heap.size w2 x)=>hgt x 4 _ hx rfl);have D4:=zh (fun x (hx:Below w2.heap.size w2 x)=>hgd x 4 (.int .i64 3) hx (by rw[List.getElem?_append_right (by simp[hle])];simp[hle]));clear hrv hc0 ht0 hd0 hgt hgd hb2 HR;obtain⟨T,hT,hT1,HTb0⟩:=BO w2 #[.slice ca GJ.length cc] 24;have hTb:=hT.below;have hTn:=hT.next
 have c0:=fun x (hx:In T x)=>HTb0 0 _ rfl x hx
 have HSh:=zh (fun x (hx:In T x)=>Qn GJ _ _ x (Hc0.out.below (hTb _ hx)) (HT.out _ (Al HB2.out (hTb _ hx))));rw[ss.1,ss.2] at HSh;have HDo:=zh (fun x (hx:In T x)=>NB GJ ⟨2,0,0,0,CU⟩ _ (.slice none 0 0) (.slice none 0 0) _ (fun _=>True) x (Hc0.out.below (hTb _ hx)) ⟨Ai.nil _ _ _ _ (by omega),AJ.nil _ _ _ _ (by omega),AI _ (by decide),AI _ (by decide),AI _ (by decide),AI _ (by decide)⟩ (HT.out _ (Al HB2.out (hTb _ hx))));rw[sd.1,sd.2.1] at HDo;simp only[IS,show CU.force=false from rfl] at HDo
 try simp only[Nat.add_zero] at c0
 have cx:=c0 _ hT1;go_wp2_with fail;refine(HSh.out _ hT1).mono ?_;rintro e w3 ⟨rfl,hb3⟩;have hT3:=hTn _ _ hT1 hb3;clear hb3 cx;have cx:=c0 _ hT3;go_wp2_with fail;refine(HDo.out _ hT3).mono ?_;rintro e w4 ⟨v4,rfl,hO4,hb4⟩;have hT4:=hTn _ _ hT3 hb4;obtain⟨F4,hO,_⟩:=hO4;have hv4:=hO.any (by rw[sd.2.2.1];decide);clear hO hb4;obtain⟨a4,n4,cap4,fr4,HN4,rfl,_,_,_,h44,_⟩:=hv4.open;obtain rfl:n4=3:=HN4.out.trans sd.2.2.1;obtain⟨b4,off4,rfl,_,k0,k1,k2,k3,k4,k5,k6⟩:=h44 (by omega);have G4:=zh (fun x (hx:Below w4.heap.size w4 x)=>show x.cell? ⟨b4,off4+2,none⟩=some (.int .i64 2) from by have h1:=k2 0 x (by decide) hx;rw[sd.2.2.2] at h1;simpa using h1);clear h44 k0 k1 k2 k3 k4 k5 k6 hv4;have hT5:=hT.alloc _ (.cells #[.slice (some ⟨b4,off4,none⟩) 3 cap4] 24) hT4;have hD5:=heap_alloc_new w4 (.cells #[.slice (some ⟨b4,off4,none⟩) 3 cap4] 24);have hbA:Below w4.heap.size w4 (w4.alloc (.cells #[.slice (some ⟨b4,off4,none⟩) 3 cap4] 24)):=bal;have y0:=Aa (j:=0) hD5 rfl;have y1:=G4.out _ hbA;have t0:=T0.out _ (hTb _ hT5);have t1:=T1.out _ (hTb _ hT5);have t2:=T2.out _ (hTb _ hT5);have t3:=T3.out _ (hTb _ hT5);have t4:=T4.out _ (hTb _ hT5);have d4:=D4.out _ (hTb _ hT5);have HE:=zh (Al HB2.out (hTb _ hT5));go_wp2_with fail;go_ret;exact⟨rfl,HE.out⟩
end Go.Proofs.YtgbnlmplkealdaaGreatDoor
