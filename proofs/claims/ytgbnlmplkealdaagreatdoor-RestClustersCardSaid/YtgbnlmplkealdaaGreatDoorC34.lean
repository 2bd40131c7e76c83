
/- DeskC: walks of desk. -/
import Derived.Test.YtgbnlmplkealdaaGreatDoorC33
set_option linter.all false
set_option maxHeartbeats 16000000
set_option maxRecDepth 100000
namespace Go.Proofs.YtgbnlmplkealdaaGreatDoor
open Go.RowKit
variable [Ghost]
def Dt (l:List Am) (a:Ac):Int:=if Cu a≠0 then Cu a else if a.kind=1 then BK l a.push a.up a.late else if a.kind=2 then Bq (Ag l (BS l)) (Ag l a.on.toNat) else 0
def EH (l:List Am) (a:Ac):List Am:=if a.kind=1 then Bf l a.push a.up a.late else if a.kind=2 then l.set a.on.toNat (Bh (Ag l (BS l)) (Ag l a.on.toNat)) else l.set a.on.toNat (DJ (Ag l a.on.toNat))
def MQ (l:List Am) (a:Ac):Bool:=if a.kind=1 then Cf l a.push a.up a.late else true
theorem PI {a:Ac} (h:Cu a=0):1≤a.kind∧a.kind≤3∧0≤a.on∧a.on<3:=by
 unfold Cu at h;split at h
 ·cases h
 ·split at h
  ·cases h
  ·split at h
   ·cases h
   ·omega
theorem DP.mono {B B':Nat} {w:World} {v:Value} {l:List Am} (h:DP B w v l) (hB:B'≤B):DP B' w v l:=by
 obtain⟨F,hO,hF⟩:=h;exact⟨F,hO.weaken (fun _ h=>h) (fun b hb=>⟨hO.lt hb,hO.own hb⟩) hB,fun b hb=>by have:=hF b hb;omega⟩
theorem DP.upd {B:Nat} {T:Nat→Prop} {w w':World} {v:Value} {l:List Am} (h:DP B w v l) (hu:AK T w w') (hT:∀b,B≤b→b<w.heap.size→¬T b):DP B w' v l:=by
 obtain⟨F,hO,hF⟩:=h;exact⟨F,hO.upd hu (fun b hb=>hT b (hF b hb) (hO.lt hb)) (fun g hg=>hT g (hO.block hg).1 (hO.block hg).2),hF⟩
theorem DP.shape {B:Nat} {w:World} {v:Value} {l:List Am} (h:DP B w v l):∃a c,v=.slice a l.length c:=let⟨_,hO,_⟩:=h;hO.shape
theorem DP.below {B:Nat} {w w':World} {v:Value} {l:List Am} (h:DP B w v l) (hb:Below w.heap.size w w'):DP B w' v l:=by
 obtain⟨F,hO,hF⟩:=h;exact⟨F,hO.below hb,hF⟩
def Wp (K:Nat) (w w':World) (E:Int) (l:List Am) (d:Bool):Prop:=(E≠0→Below w.heap.size w w')∧(E=0→AK (fun b=>b=K) w w'∧∃v',w'.heap[K]?=some (.cells #[v',.bool d] 75 (0,0))∧DP w.heap.size w' v' l)
theorem Ml (K:Nat) (sa:Option Addr) (sc:Nat) (l:List Am) (a:Ac) (ov uv:Value) (S S1:Nat→Prop) (w:World) (hK:w.heap[K]?=some (.cells #[.slice sa 3 sc,.bool false] 75 (0,0))) (h:Az S w (.slice sa 3 sc) l) (hc:BC l) (ha:DC S1 w a ov uv) (ht:Qf w):
  Calls Tryz.prog 38 #[.pointer (some ⟨K,0,none⟩),IS a ov uv] w fun e w'=>e=.returned (.int .i64 (Dt l a))∧Wp K w w' (Dt l a) (EH l a) (MQ l a):=by
 obtain⟨oa,oc,rfl⟩:=ha.objs.vshape;obtain⟨⟨ua,uc⟩,rfl⟩:=ha.upds.shape;have HA:=zh ha;have H:=zh h;have HC:=zh hc;have HK:=zh hK;have HTw:=zh ht;have hKs:K<w.heap.size:=lt_of_block hK;have HE:=zh (show Dt l a=if Cu a≠0 then Cu a else if a.kind=1 then BK l a.push a.up a.late else if a.kind=2 then Bq (Ag l (BS l)) (Ag l a.on.toNat) else 0 from rfl);have HL:=zh (show EH l a=if a.kind=1 then Bf l a.push a.up a.late else if a.kind=2 then l.set a.on.toNat (Bh (Ag l (BS l)) (Ag l a.on.toNat)) else l.set a.on.toNat (DJ (Ag l a.on.toNat)) from rfl);have HD:=zh (show MQ l a=if a.kind=1 then Cf l a.push a.up a.late else true from rfl);obtain⟨R,hR,hR1,HB0⟩:=AF w [.cells #[.pointer (some ⟨K,0,none⟩)] 73,.cells #[.int .i64 a.kind,.int .i64 a.on,.int .i64 a.up,.int .i64 a.late,.slice oa a.push.objects.length oc,.slice ua a.push.updates.length uc,.bool a.push.force] 30];simp only[List.foldl] at hR1;have hRb:=hR.below;have hRn:=hR.next
 have HJ:=zh (fun x (hx:In R x)=>show x.heap[w.heap.size]?=some (.cells #[.pointer (some ⟨K,0,none⟩)] 73 (0,0)) from HB0 x hx 0 _ rfl);have HAb:=zh (fun x (hx:In R x)=>HB0 x hx 1 _ rfl);clear HB0;have j0:=fun x (hx:In R x)=>Aa (j:=0) (HJ.out x hx) rfl
 have a0:=fun x (hx:In R x)=>Aa (j:=0) (HAb.out x hx) rfl
 have a1:=fun x (hx:In R x)=>Aa (j:=1) (HAb.out x hx) rfl
 have a2:=fun x (hx:In R x)=>Aa (j:=2) (HAb.out x hx) rfl
 have a3:=fun x (hx:In R x)=>Aa (j:=3) (HAb.out x hx) rfl
 have a4:=fun x (hx:In R x)=>Aa (j:=4) (HAb.out x hx) rfl
 have a5:=fun x (hx:In R x)=>Aa (j:=5) (HAb.out x hx) rfl
 have a6:=fun x (hx:In R x)=>Aa (j:=6) (HAb.out x hx) rfl
 have HKx:=zh (fun x (hx:In R x)=>((hRb _ hx).block _ hKs).trans HK.out);have k0:=fun x (hx:In R x)=>Aa (j:=0) (HKx.out x hx) rfl
 have HSz:=zh (fun x (hx:In R x)=>show w.heap.size+2≤x.heap.size from lt_of_block (HAb.out x hx));have HFo:=zh (fun x (hx:In R x)=>Xt K sa sc false a _ _ _ x (HKx.out x hx) (HA.out.below (hRb _ hx)));simp only[IS] at HFo;have jj:=j0 _ hR1;have b0:=a0 _ hR1;have b1:=a1 _ hR1;have b2:=a2 _ hR1;have b3:=a3 _ hR1;have b4:=a4 _ hR1;have b5:=a5 _ hR1;have b6:=a6 _ hR1;clear ha h hc hK ht;simp only[IS];by_cases hf:Cu a=0
 case neg=>
  have HE2:=zh (show Dt l a=Cu a by rw[HE.out,if_pos hf]);have q:(Cu a !=0)=true:=by simpa using hf
  have HN:=zh hf;clear hf HE;generalize Cu a=fe at*
  go_enter Tryz.func38, Tryz.ntmps38
  go_wp2_with fail;refine(HFo.out _ hR1).mono ?_;rintro e w1 ⟨rfl,hb1⟩;have hR2:=hRn _ _ hR1 hb1;clear hb1 jj b0 b1 b2 b3 b4 b5 b6;have HB2:=zh (hRb _ hR2);go_wp2_with fail;go_ret;exact⟨Af HE2.out.symm,fun _=>HB2.out,fun h=>absurd (HE2.out.symm.trans h) HN.out⟩
 obtain⟨f1,f2,f3,f4⟩:=PI hf;rw[if_neg (by simpa using hf)] at HE;rw[hf] at HFo;clear hf;obtain⟨i,hi⟩:∃i:Nat,a.on=(i:Int):=⟨a.on.toNat,by omega⟩;have hi3:i<3:=by omega
 have Hoi:=zh (show a.on.toNat=i by rw[hi];rfl);rw[Hoi.out] at HE HL;have Hi:=zh hi;clear hi;by_cases g1:a.kind=1
 case pos=>
  rw[if_pos g1] at HE HL HD;have qk:(a.kind==1)=true:=by simpa using g1
  clear g1 Hi Hoi;have HRw:=zh (fun x (hx:In R x)=>Nu l a.push a.up a.late _ _ _ _ _ x (H.out.below (hRb _ hx)) HC.out ⟨HA.out.objs.below (hRb _ hx),HA.out.upds.below (hRb _ hx)⟩ (HTw.out.below (hRb _ hx)));simp only[Dn] at HRw;obtain⟨re,hre⟩:∃re,re=BK l a.push a.up a.late:=⟨_,rfl⟩;obtain⟨rl,hrl⟩:∃rl,rl=Bf l a.push a.up a.late:=⟨_,rfl⟩;obtain⟨rd,hrd⟩:∃rd,rd=Cf l a.push a.up a.late:=⟨_,rfl⟩;rw[←hre,←hrl,←hrd] at HRw;rw[←hre] at HE;rw[←hrl] at HL;rw[←hrd] at HD;clear hre hrl hrd
  go_enter Tryz.func38, Tryz.ntmps38
  go_wp2_with fail;refine(HFo.out _ hR1).mono ?_;rintro e w1 ⟨rfl,hb1⟩;have hR2:=hRn _ _ hR1 hb1;clear hb1 jj b0 b1 b2 b3 b4 b5 b6;have b0:=a0 _ hR2;have b2:=a2 _ hR2;have b3:=a3 _ hR2;have b4:=a4 _ hR2;have b5:=a5 _ hR2;have b6:=a6 _ hR2;go_upto_region 6 with fail;clear b0 b2 b3 b4 b5 b6;go_cut [6,7,8] (fun s6 s7 s8 wx=>∃D6,s6=.pointer (some ⟨D6,0,none⟩)∧s7=.bool rd∧s8=.int .i64 re∧∃y,y=wx∧Hid (In R y∧w.heap.size+2≤D6∧∃a6 c6,y.heap[D6]?=some (.cells #[.slice a6 rl.length c6] 24 (0,0))∧DP w.heap.size y (.slice a6 rl.length c6) rl))
  case first=>
   obtain⟨Q,hQ,hQ1,hQu⟩:=EU w1;have hQb:=hQ.below;have hQn:=hQ.next
   have HQu:=zh hQu;clear hQu;have HQR:=zh (fun x (hx:In Q x)=>hRn _ _ hR2 (hQb _ hx));have hw1:=HSz.out _ hR2;refine rh (In Q) ?_;have hC0:=hQ.drew _ hQ1;generalize hx0:w1.drew=x0 at hC0⊢;clear hx0;refine tk 0 (.pointer (some ⟨K,0,none⟩)) (fun w hSw=>?_) hC0 ?_
   ·have yy:=j0 _ (HQR.out _ hSw);go_simp
   simp only[tkS];refine tk 1 (.pointer (some ⟨K,0,none⟩)) (fun w hSw=>?_) hC0 ?_
   ·go_simp
   simp only[tkS];refine tk 2 (.pointer (some ⟨K,0,none⟩)) (fun w hSw=>?_) hC0 ?_
   ·go_simp
   simp only[tkS];refine tk 3 (.agg #[.slice sa 3 sc]) (fun w hSw=>?_) hC0 ?_
   ·have yy:=k0 _ (HQR.out _ hSw);go_simp
   simp only[tkS];refine tk 4 (.pointer (some ⟨w.heap.size+1,4,none⟩)) (fun w hSw=>?_) hC0 ?_
   ·go_simp
   simp only[tkS];refine tk 5 (.agg #[.slice oa a.push.objects.length oc,.slice ua a.push.updates.length uc,.bool a.push.force]) (fun w hSw=>?_) hC0 ?_
   ·have y4:=a4 _ (HQR.out _ hSw);have y5:=a5 _ (HQR.out _ hSw);have y6:=a6 _ (HQR.out _ hSw);go_simp
   simp only[tkS];refine tk 6 (.pointer (some ⟨w.heap.size+1,2,none⟩)) (fun w hSw=>?_) hC0 ?_
   ·go_simp
   simp only[tkS];refine tk 7 (.int .i64 a.up) (fun w hSw=>?_) hC0 ?_
   ·have y2:=a2 _ (HQR.out _ hSw);go_simp
   simp only[tkS];refine tk 8 (.pointer (some ⟨w.heap.size+1,3,none⟩)) (fun w hSw=>?_) hC0 ?_
   ·go_simp
   simp only[tkS];refine tk 9 (.int .i64 a.late) (fun w hSw=>?_) hC0 ?_
   ·have y3:=a3 _ (HQR.out _ hSw);go_simp
   simp only[tkS];refine al2 10 15 ?_ ?_
   ·skip
    refine Or.inl ?_;go_wp2_with fail;refine(HRw.out _ (HQR.out _ hC0)).mono ?_;rintro e x20 ⟨v6,rfl,hv6,hb0⟩;obtain⟨a6,c6,rfl⟩:=hv6.shape;have hC1:=hQn _ _ hC0 hb0;have hsx:=(HQR.out _ hC0);have hsy:=(hRb _ hsx).size;have Hv6:=zh (And.intro hv6 hsy);clear hv6 hb0 hsx hsy;obtain⟨B6,hB6⟩:∃B6,B6=x0.heap.size:=⟨_,rfl⟩;rw[←hB6] at Hv6;clear hB6;generalize x20=x1 at*;go_simp;refine tk 11 (.tuple #[.agg #[.slice a6 rl.length c6],.bool rd,.int .i64 re]) (fun w hSw=>?_) hC1 ?_
    ·go_simp
    simp only[tkS];refine tk 12 (.agg #[.slice a6 rl.length c6]) (fun w hSw=>?_) hC1 ?_
    ·go_simp
    simp only[tkS];refine tk 13 (.bool rd) (fun w hSw=>?_) hC1 ?_
    ·go_simp
    simp only[tkS];refine tk 14 (.int .i64 re) (fun w hSw=>?_) hC1 ?_
    ·go_simp
    simp only[tkS];refine al1 15 ?_;refine Or.inl ?_;have hC2:=hQ.alloc _ (.cells #[.slice none 0 0] 24) hC1;go_simp;have hbA:Below x1.heap.size x1 (x1.alloc (.cells #[.slice none 0 0] 24)):=bal;have HDb:=zh (heap_alloc_new x1 (.cells #[.slice none 0 0] 24));have HDge:=zh (show w1.heap.size≤x1.heap.size from(hQb _ hC1).size);have Hlt:=zh (show∀T:Nat→Prop,(∀b,T b→b=x1.heap.size)→∀z,AK T (x1.alloc (.cells #[.slice none 0 0] 24)) z→DP w.heap.size z (.slice a6 rl.length c6) rl from fun T hT z hu=>by
     obtain⟨F,hO,hF⟩:=Hv6.out.1;exact(show DP B6 z (.slice a6 rl.length c6) rl from⟨F,(hO.below hbA).upd hu (fun b hb e=>by have:=hT b e;have:=hO.lt hb;omega) (fun g hg e=>by have:=hT g e;have:=(hO.block hg).2;omega),hF⟩).mono Hv6.out.2)
    clear hbA;generalize x1.heap.size=D at*;generalize x1.alloc (.cells #[.slice none 0 0] 24)=x2 at*;refine al1 16 ?_;refine Or.inl ?_;have gz:=Aa (j:=0) HDb.out rfl;have fz:=Ad (j:=0) HDb.out;have Hu7:=zh (su D 0 x2 (.slice a6 rl.length c6));have Hb7:=zh (Ah (j:=0) HDb.out (.slice a6 rl.length c6));have hC3:=HQu.out _ _ _ hC2 Hu7.out (fun b hb=>by have:=HDge.out;have e2:b=D:=hb;omega);have Hv7:=zh (Hlt.out _ (fun b hb=>hb) _ Hu7.out);go_wp2_with fail
    first|refine⟨hC3,?_⟩|skip
    change wpAnyH _ _ _ _ _ _ _ _ (x2.setCell ⟨D,0,none⟩ (.slice a6 rl.length c6));clear gz fz Hu7;generalize x2.setCell ⟨D,0,none⟩ (.slice a6 rl.length c6)=x3 at*;refine tk 17 (.bool rd) (fun w hSw=>?_) hC3 ?_
    ·go_simp
    simp only[tkS];refine al1 18 ?_;refine Or.inl ?_;go_wp2_with fail
    first|refine⟨hC3,by kernel_rfl,?_⟩|refine⟨by kernel_rfl,?_⟩
    have HEnd:=zh (show In R x3∧w.heap.size+2≤D∧∃a6 c6,x3.heap[D]?=some (.cells #[.slice a6 rl.length c6] 24 (0,0))∧DP w.heap.size x3 (.slice a6 rl.length c6) rl from⟨HQR.out _ hC3,by have:=HDge.out;omega,a6,c6,Hb7.out,Hv7.out⟩);go_wp2_with fail;go_meet;exact⟨D,rfl,rfl,rfl,x3,rfl,HEnd⟩
   refine Or.inl ?_;have hC1:=hQ.alloc _ (.cells #[.slice none 0 0] 24) hC0;go_simp;have hbA:Below x0.heap.size x0 (x0.alloc (.cells #[.slice none 0 0] 24)):=bal;have HDb:=zh (heap_alloc_new x0 (.cells #[.slice none 0 0] 24));have HDge:=zh (show w1.heap.size≤x0.heap.size from(hQb _ hC0).size);clear hbA;generalize x0.heap.size=D at*;generalize x0.alloc (.cells #[.slice none 0 0] 24)=x1 at*;refine al1 10 ?_;refine Or.inl ?_;go_wp2_with fail;refine(HRw.out _ (HQR.out _ hC1)).mono ?_;rintro e x21 ⟨v6,rfl,hv6,hb0⟩;obtain⟨a6,c6,rfl⟩:=hv6.shape;have hC2:=hQn _ _ hC1 hb0;have hsx:=(HQR.out _ hC1);have hsy:=(hRb _ hsx).size;have HDx:=zh (show D<x1.heap.size from lt_of_block HDb.out);replace HDb:=zh (Ab HDb.out hb0);have Hv6:=zh (And.intro hv6 hsy);clear hv6 hb0 hsx hsy;obtain⟨B6,hB6⟩:∃B6,B6=x1.heap.size:=⟨_,rfl⟩;rw[←hB6] at Hv6 HDx;clear hB6;generalize x21=x2 at*;go_simp;refine tk 11 (.tuple #[.agg #[.slice a6 rl.length c6],.bool rd,.int .i64 re]) (fun w hSw=>?_) hC2 ?_
   ·go_simp
   simp only[tkS];refine tk 12 (.agg #[.slice a6 rl.length c6]) (fun w hSw=>?_) hC2 ?_
   ·go_simp
   simp only[tkS];refine tk 13 (.bool rd) (fun w hSw=>?_) hC2 ?_
   ·go_simp
   simp only[tkS];refine tk 14 (.int .i64 re) (fun w hSw=>?_) hC2 ?_
   ·go_simp
   simp only[tkS];refine al1 16 ?_;refine Or.inl ?_;have gz:=Aa (j:=0) HDb.out rfl;have fz:=Ad (j:=0) HDb.out;have Hu7:=zh (su D 0 x2 (.slice a6 rl.length c6));have Hb7:=zh (Ah (j:=0) HDb.out (.slice a6 rl.length c6));have hC3:=HQu.out _ _ _ hC2 Hu7.out (fun b hb=>by have:=HDge.out;have e2:b=D:=hb;omega);have Hv7:=zh ((Hv6.out.1.upd Hu7.out (fun b hb _ e=>by have:=HDx.out;have e2:b=D:=e;omega)).mono Hv6.out.2);go_wp2_with fail
   first|refine⟨hC3,?_⟩|skip
   change wpAnyH _ _ _ _ _ _ _ _ (x2.setCell ⟨D,0,none⟩ (.slice a6 rl.length c6));clear gz fz Hu7;generalize x2.setCell ⟨D,0,none⟩ (.slice a6 rl.length c6)=x3 at*;refine tk 17 (.bool rd) (fun w hSw=>?_) hC3 ?_
   ·go_simp
   simp only[tkS];refine al1 18 ?_;refine Or.inl ?_;go_wp2_with fail
   first|refine⟨hC3,by kernel_rfl,?_⟩|refine⟨by kernel_rfl,?_⟩
   have HEnd:=zh (show In R x3∧w.heap.size+2≤D∧∃a6 c6,x3.heap[D]?=some (.cells #[.slice a6 rl.length c6] 24 (0,0))∧DP w.heap.size x3 (.slice a6 rl.length c6) rl from⟨HQR.out _ hC3,by have:=HDge.out;omega,a6,c6,Hb7.out,Hv7.out⟩);go_wp2_with fail;go_meet;exact⟨D,rfl,rfl,rfl,x3,rfl,HEnd⟩
  obtain⟨D6,rfl,rfl,rfl,y6,rfl,HK6⟩:=hcut;obtain⟨hR6,hD6,a6,c6,hb6,ho6⟩:=HK6.out;have HB6:=zh hb6;have HO6:=zh ho6;clear HK6 hb6 ho6;by_cases hz:re=0
  case neg=>
   have q:(re==0)=false:=by simpa using hz
   have HN:=zh hz;have HB2:=zh (hRb _ hR6);clear hz;go_wp2_with fail;go_ret;exact⟨Af HE.out.symm,fun _=>HB2.out,fun h=>absurd (HE.out.symm.trans h) HN.out⟩
  subst hz;go_upto_region 8 with fail;refine rh (In (fun x:World=>x.cell? ⟨w.heap.size,0,none⟩=some (.pointer (some ⟨K,0,none⟩))∧x.cell? ⟨D6,0,none⟩=some (.slice a6 rl.length c6))) ?_;have hR7:=hR.drew _ hR6;have HB7:=zh (show y6.drew.heap[D6]?=_ from HB6.out);have HO7:=zh (HO6.out.below (Below.refl _ _).drew);generalize hx0:y6.drew=x0 at hR7 HB7 HO7⊢;clear hx0 HB6 HO6;have hC0:In (fun x:World=>x.cell? ⟨w.heap.size,0,none⟩=some (.pointer (some ⟨K,0,none⟩))∧x.cell? ⟨D6,0,none⟩=some (.slice a6 rl.length c6)) x0:=show(fun x:World=>x.cell? ⟨w.heap.size,0,none⟩=some (.pointer (some ⟨K,0,none⟩))∧x.cell? ⟨D6,0,none⟩=some (.slice a6 rl.length c6)) x0 from⟨j0 _ hR7,Aa (j:=0) HB7.out rfl⟩
  have HKy:=zh (HKx.out _ hR7);refine tk 0 (.pointer (some ⟨K,0,none⟩)) (fun w hSw=>?_) hC0 ?_
  ·have yq:_∧_:=hSw;have yy:=yq.1;go_simp
  simp only[tkS];refine tk 1 (.pointer (some ⟨K,0,none⟩)) (fun w hSw=>?_) hC0 ?_
  ·have yq:_∧_:=hSw;have yy:=yq.1;go_simp
  simp only[tkS];refine tk 2 (.agg #[.slice a6 rl.length c6]) (fun w hSw=>?_) hC0 ?_
  ·have yq:_∧_:=hSw;have yy:=yq.2;go_simp
  simp only[tkS];refine tk 3 (.bool rd) (fun w hSw=>?_) hC0 ?_
  ·go_simp
  simp only[tkS];refine tk 4 (.pointer (some ⟨K,0,none⟩)) (fun w hSw=>?_) hC0 ?_
  ·go_simp
  simp only[tkS];refine tk 5 (.pointer (some ⟨K,0,none⟩)) (fun w hSw=>?_) hC0 ?_
  ·go_simp
  simp only[tkS];refine al1 6 ?_;refine Or.inl ?_;have m0:=Aa (j:=0) HKy.out rfl;have n0:=Ad (j:=0) HKy.out;have Hu7:=zh (su K 0 x0 (.slice a6 rl.length c6));have Hs0:=zh (Ah (j:=0) HKy.out (.slice a6 rl.length c6));have hq:=(show _∧_ from hC0);have hC1:In (fun x:World=>x.cell? ⟨w.heap.size,0,none⟩=some (.pointer (some ⟨K,0,none⟩))∧x.cell? ⟨D6,0,none⟩=some (.slice a6 rl.length c6)) (x0.setCell ⟨K,0,none⟩ (.slice a6 rl.length c6)):=show(fun x:World=>x.cell? ⟨w.heap.size,0,none⟩=some (.pointer (some ⟨K,0,none⟩))∧x.cell? ⟨D6,0,none⟩=some (.slice a6 rl.length c6)) (x0.setCell ⟨K,0,none⟩ (.slice a6 rl.length c6)) from⟨Hu7.out.cell hq.1 (fun e=>by have e2:w.heap.size=K:=e;omega),Hu7.out.cell hq.2 (fun e=>by have e2:D6=K:=e;omega)⟩
  clear hq;go_wp2_with fail
  first|refine⟨hC1,?_⟩|skip
  change wpAnyH _ _ _ _ _ _ _ _ (x0.setCell ⟨K,0,none⟩ (.slice a6 rl.length c6));clear m0 n0;generalize x0.setCell ⟨K,0,none⟩ (.slice a6 rl.length c6)=x1 at*;refine tk 7 (.pointer (some ⟨K,0,none⟩)) (fun w hSw=>?_) hC1 ?_
  ·go_simp
  simp only[tkS];refine tk 8 (.pointer (some ⟨K,1,none⟩)) (fun w hSw=>?_) hC1 ?_
  ·go_simp
  simp only[tkS];refine al1 9 ?_;refine Or.inl ?_;have m0:=Aa (j:=1) Hs0.out rfl;have n0:=Ad (j:=1) Hs0.out;have Hu8:=zh (su K 1 x1 (.bool rd));have Hs1:=Ah (j:=1) Hs0.out (.bool rd);simp only[List.setIfInBounds_toArray,List.set_cons_zero,List.set_cons_succ] at Hs1;have hq:=(show _∧_ from hC1);have hC2:In (fun x:World=>x.cell? ⟨w.heap.size,0,none⟩=some (.pointer (some ⟨K,0,none⟩))∧x.cell? ⟨D6,0,none⟩=some (.slice a6 rl.length c6)) (x1.setCell ⟨K,1,none⟩ (.bool rd)):=show(fun x:World=>x.cell? ⟨w.heap.size,0,none⟩=some (.pointer (some ⟨K,0,none⟩))∧x.cell? ⟨D6,0,none⟩=some (.slice a6 rl.length c6)) (x1.setCell ⟨K,1,none⟩ (.bool rd)) from⟨Hu8.out.cell hq.1 (fun e=>by have e2:w.heap.size=K:=e;omega),Hu8.out.cell hq.2 (fun e=>by have e2:D6=K:=e;omega)⟩
  clear hq;have HB9:=hRb _ hR7;have HEnd:=zh (show AK (fun b=>b=K) w (x1.setCell ⟨K,1,none⟩ (.bool rd))∧∃v',(x1.setCell ⟨K,1,none⟩ (.bool rd)).heap[K]?=some (.cells #[v',.bool rd] 75 (0,0))∧DP w.heap.size (x1.setCell ⟨K,1,none⟩ (.bool rd)) v' rl from
   ⟨(((Dp HB9).weaken fun b hb h=>by have h2:w.heap.size≤b:=h;omega).trans Hu7.out (fun _ _ h=>h)).trans Hu8.out (fun _ _ h=>h),_,Hs1,((HO7.out.upd Hu7.out (fun b hb _ e=>by have e2:b=K:=e;omega)).upd Hu8.out (fun b hb _ e=>by have e2:b=K:=e;omega))⟩)
  clear Hs1 HB9;go_wp2_with fail
  first|refine⟨by kernel_rfl,?_⟩|refine⟨hC2,by kernel_rfl,?_⟩
  first|change Exit.then _ _ _ _ (x1.setCell ⟨K,1,none⟩ (.bool rd))|change Exit.inBlock _ _ _ _ (x1.setCell ⟨K,1,none⟩ (.bool rd))
  clear m0 n0 hC2;generalize x1.setCell ⟨K,1,none⟩ (.bool rd)=x2 at*;go_wp2_with fail;go_ret;exact⟨Af HE.out.symm,fun h=>absurd HE.out h,fun _=>by rw[HL.out,HD.out];exact HEnd.out⟩
 rw[if_neg g1] at HE HL HD;have qk:(a.kind==1)=false:=by simpa using g1
 by_cases g2:a.kind=2
 case pos=>
  rw[if_pos g2] at HE HL;have qk2:(a.kind==2)=true:=by simpa using g2
  clear g1 g2;have HBe:=zh (fun x (hx:In R x)=>Nm l _ _ x (H.out.below (hRb _ hx)))
  go_enter Tryz.func38, Tryz.ntmps38
  go_wp2_with fail;refine(HFo.out _ hR1).mono ?_;rintro e w1 ⟨rfl,hb1⟩;have hR2:=hRn _ _ hR1 hb1;clear hb1 jj b0 b1 b2 b3 b4 b5 b6;have b0:=a0 _ hR2;have jj:=j0 _ hR2;have kk:=k0 _ hR2;go_wp2_with fail;refine(HBe.out _ hR2).mono ?_;rintro e w2 ⟨rfl,hb2⟩;have hR3:=hRn _ _ hR2 hb2;clear hb2 b0 jj kk HBe;have hbl:BS l<3:=by have:=GZ (l:=l) (by have:=HC.out.len;omega);have:=HC.out.len;omega
  generalize hbe:BS l=bi at*;clear hbe;have hR4:=hR.alloc _ (.cells #[.int .i64 (bi:Int)] 3) hR3;have HDb:=zh (heap_alloc_new w2 (.cells #[.int .i64 (bi:Int)] 3));have b1:=a1 _ hR4;have jj:=j0 _ hR4;have HBk:=zh (hRb _ hR4);have HWi:=zh (JX K 63 i sa sc false #[.pointer (some ⟨w.heap.size,0,none⟩),.pointer (some ⟨w2.heap.size,0,none⟩)] l _ _ S (fun x=>x.heap[K]?=some (.cells #[.slice sa 3 sc,.bool false] 75 (0,0))∧x.heap[w.heap.size]?=some (.cells #[.pointer (some ⟨K,0,none⟩)] 73 (0,0))∧x.heap[w2.heap.size]?=some (.cells #[.int .i64 (bi:Int)] 3 (0,0))∧Az S x (.slice sa 3 sc) l) (w2.alloc (.cells #[.int .i64 (bi:Int)] 3)) (HKx.out _ hR4) (H.out.below (hRb _ hR4)) HC.out.len hi3
   ⟨HKx.out _ hR4,HJ.out _ hR4,HDb.out,H.out.below (hRb _ hR4)⟩ (fun x z h hb=>⟨Ab h.1 hb,Ab h.2.1 hb,Ab h.2.2.1 hb,h.2.2.2.below hb⟩) (fun _ _=>rfl)
   (fun x sv rv ov uv S2 hx hr=>YS K w.heap.size w2.heap.size bi sa sc false l (Ag l i) sv rv ov uv S S2 x hx.1 hx.2.1 hx.2.2.1 hx.2.2.2 HC.out.len hbl hr ((BB (CL (Bm.2 (HC.out.each bi hbl)))).1) (CL (Bm.2 (HC.out.each i hi3)))))
  rw[←Hi.out] at HWi;go_wp2_with fail;refine HWi.out.mono ?_;rintro e x9 ⟨rfl,h1,h2⟩;have HW:=zh (And.intro h1 h2);clear h1 h2;go_wp2_with fail;go_ret;refine⟨Af HE.out.symm,fun h=>?_,fun h=>?_⟩
  ·exact HBk.out.trans ((HW.out.1 (by rw[←HE.out];exact h)).mono HBk.out.size)
  ·obtain⟨hu,v9,hk9,ho9⟩:=HW.out.2 (by rw[←HE.out];exact h)
   rw[HL.out,HD.out];exact⟨((Dp HBk.out).weaken fun b hb h=>by have h2:w.heap.size≤b:=h;omega).trans hu (fun _ _ h=>h),v9,hk9,ho9.mono HBk.out.size⟩
 rw[if_neg g2] at HE HL;have qk2:(a.kind==2)=false:=by simpa using g2
 clear g1 g2
 go_enter Tryz.func38, Tryz.ntmps38
 go_wp2_with fail;refine(HFo.out _ hR1).mono ?_;rintro e w1 ⟨rfl,hb1⟩;have hR2:=hRn _ _ hR1 hb1;clear hb1 jj b0 b1 b2 b3 b4 b5 b6;have b0:=a0 _ hR2;have b1:=a1 _ hR2;have jj:=j0 _ hR2;have HBk:=zh (hRb _ hR2);have hrc:=Bm.2 (HC.out.each i hi3);have HWi:=zh (JX K 64 i sa sc false #[] l (DJ (Ag l i)) 0 S (fun _=>True) w1 (HKx.out _ hR2) (H.out.below (hRb _ hR2)) HC.out.len hi3 trivial (fun _ _ _ _=>trivial) (fun _ _=>rfl)
  (fun x sv rv ov uv S2 _ hr=>by
   have hC:=UQ (Ag l i) sv rv ov uv S2 x hr;rw[hrc,show NA (Ag l i)=DJ (Ag l i) by unfold NA;rw[if_pos hrc]] at hC;exact hC))
 rw[←Hi.out] at HWi;go_wp2_with fail;refine HWi.out.mono ?_;rintro e x9 ⟨rfl,h1,h2⟩;have HW:=zh (And.intro h1 h2);clear h1 h2;go_wp2_with fail;go_ret;refine⟨Af HE.out.symm,fun h=>?_,fun h=>?_⟩
 ·exact absurd HE.out h
 ·obtain⟨hu,v9,hk9,ho9⟩:=HW.out.2 (by first|trivial|rfl)
  rw[HL.out,HD.out];exact⟨((Dp HBk.out).weaken fun b hb h=>by have h2:w.heap.size≤b:=h;omega).trans hu (fun _ _ h=>h),v9,hk9,ho9.mono HBk.out.size⟩
variable [Ghost]
theorem RF (n r:Am) (sv rv ov uv sv2 rv2 ov2 uv2:Value) (S S':Nat→Prop) (w:World) (h:Ax S w n sv rv ov uv) (h2:Ax S' w r sv2 rv2 ov2 uv2):
  Calls Tryz.prog 27 #[AO n sv rv ov uv,AO r sv2 rv2 ov2 uv2] w fun e w'=>Fu w w' e (Fe n r) (IH n r):=by
 have HE:=zh (show IH n r=if Ak n≠0 then Ak n else if Ak r≠0 then Ak r else Bq n r from rfl);have HR:=zh (show Fe n r=if IH n r=0 then Bh n r else BE from rfl);have HR0:=zh (fun(h:Bq n r≠0)=>show Bh n r=BE by unfold Bh;rw[if_neg h]);have H:=zh h;have G:=zh h2;have Hcn:=zh (fun(h:Ak n=0)=>CL h);have Hcr:=zh (fun(h:Ak r=0)=>CL h);obtain⟨sa,sc,rfl⟩:=h.store.vshape;obtain⟨⟨ra,rc⟩,rfl⟩:=h.refs.shape;obtain⟨oa,oc,rfl⟩:=h.objs.vshape;obtain⟨⟨ua,uc⟩,rfl⟩:=h.upds.shape;obtain⟨KF,MH,rfl⟩:=h2.store.vshape;obtain⟨⟨ra2,rc2⟩,rfl⟩:=h2.refs.shape;obtain⟨oa2,oc2,rfl⟩:=h2.objs.vshape;obtain⟨⟨ua2,uc2⟩,rfl⟩:=h2.upds.shape;clear h h2;simp only[AO];obtain⟨Q,hQ,hQ1,HB0⟩:=AF w [.cells #[.slice sa n.store.length sc,.slice ra n.refs.length rc,.int .i64 n.gen,.int .i64 n.phase,.slice oa n.pend.objects.length oc,.slice ua n.pend.updates.length uc,.bool n.pend.force] 34,.cells #[.slice KF r.store.length MH,.slice ra2 r.refs.length rc2,.int .i64 r.gen,.int .i64 r.phase,.slice oa2 r.pend.objects.length oc2,.slice ua2 r.pend.updates.length uc2,.bool r.pend.force] 34,.cells #[.slice none 0 0,.slice none 0 0,.int .i64 0,.int .i64 0,.slice none 0 0,.slice none 0 0,.bool false] 34,.cells #[.slice sa n.store.length sc,.slice ra n.refs.length rc,.int .i64 n.gen,.int .i64 n.phase,.slice oa n.pend.objects.length oc,.slice ua n.pend.updates.length uc,.bool n.pend.force,.slice KF r.store.length MH,.slice ra2 r.refs.length rc2,.int .i64 r.gen,.int .i64 r.phase,.slice oa2 r.pend.objects.length oc2,.slice ua2 r.pend.updates.length uc2,.bool r.pend.force] 34]
 simp only[List.foldl] at hQ1;have hQn:=hQ.next
 have hQb:=hQ.below;have HZ:=zh (fun x (hx:In Q x)=>show x.heap[w.heap.size+2]?=some (.cells Ft 34 (0,0)) from HB0 x hx 2 _ rfl);have HC:=zh (fun x (hx:In Q x)=>Fy n _ _ _ _ _ x (H.out.below (hQb _ hx)));have HD:=zh (fun x (hx:In Q x)=>Fy r _ _ _ _ _ x (G.out.below (hQb _ hx)));simp only[AO] at HC HD;have HW:=zh (fun x (hx:In Q x) (h1:Ak n=0) (h2:Ak r=0)=>Gy n r _ _ _ _ _ _ _ _ _ _ x (H.out.below (hQb _ hx)) (G.out.below (hQb _ hx)) ((BB (Hcn.out h1)).1) (Hcr.out h2));simp only[AO] at HW;have y0:=fun x (hx:In Q x)=>Aa (j:=0) (HB0 x hx 0 _ rfl) rfl
 have y1:=fun x (hx:In Q x)=>Aa (j:=1) (HB0 x hx 0 _ rfl) rfl
 have y2:=fun x (hx:In Q x)=>Aa (j:=2) (HB0 x hx 0 _ rfl) rfl
 have y3:=fun x (hx:In Q x)=>Aa (j:=3) (HB0 x hx 0 _ rfl) rfl
 have y4:=fun x (hx:In Q x)=>Aa (j:=4) (HB0 x hx 0 _ rfl) rfl
 have y5:=fun x (hx:In Q x)=>Aa (j:=5) (HB0 x hx 0 _ rfl) rfl
 have y6:=fun x (hx:In Q x)=>Aa (j:=6) (HB0 x hx 0 _ rfl) rfl
 have z0:=fun x (hx:In Q x)=>Aa (j:=0) (HB0 x hx 1 _ rfl) rfl
 have z1:=fun x (hx:In Q x)=>Aa (j:=1) (HB0 x hx 1 _ rfl) rfl
 have z2:=fun x (hx:In Q x)=>Aa (j:=2) (HB0 x hx 1 _ rfl) rfl
 have z3:=fun x (hx:In Q x)=>Aa (j:=3) (HB0 x hx 1 _ rfl) rfl
 have z4:=fun x (hx:In Q x)=>Aa (j:=4) (HB0 x hx 1 _ rfl) rfl
 have z5:=fun x (hx:In Q x)=>Aa (j:=5) (HB0 x hx 1 _ rfl) rfl
 have z6:=fun x (hx:In Q x)=>Aa (j:=6) (HB0 x hx 1 _ rfl) rfl
 have b0:=fun x (hx:In Q x)=>Aa (j:=0) (HB0 x hx 3 _ rfl) rfl
 have b1:=fun x (hx:In Q x)=>Aa (j:=1) (HB0 x hx 3 _ rfl) rfl
 have b2:=fun x (hx:In Q x)=>Aa (j:=2) (HB0 x hx 3 _ rfl) rfl
 have b3:=fun x (hx:In Q x)=>Aa (j:=3) (HB0 x hx 3 _ rfl) rfl
 have b4:=fun x (hx:In Q x)=>Aa (j:=4) (HB0 x hx 3 _ rfl) rfl
 have b5:=fun x (hx:In Q x)=>Aa (j:=5) (HB0 x hx 3 _ rfl) rfl
 have b6:=fun x (hx:In Q x)=>Aa (j:=6) (HB0 x hx 3 _ rfl) rfl
 have b7:=fun x (hx:In Q x)=>Aa (j:=7) (HB0 x hx 3 _ rfl) rfl
 have b8:=fun x (hx:In Q x)=>Aa (j:=8) (HB0 x hx 3 _ rfl) rfl
 have b9:=fun x (hx:In Q x)=>Aa (j:=9) (HB0 x hx 3 _ rfl) rfl
 have b10:=fun x (hx:In Q x)=>Aa (j:=10) (HB0 x hx 3 _ rfl) rfl
 have b11:=fun x (hx:In Q x)=>Aa (j:=11) (HB0 x hx 3 _ rfl) rfl
 have b12:=fun x (hx:In Q x)=>Aa (j:=12) (HB0 x hx 3 _ rfl) rfl
 have b13:=fun x (hx:In Q x)=>Aa (j:=13) (HB0 x hx 3 _ rfl) rfl
 simp only[Nat.add_zero] at y0 y1 y2 y3 y4 y5 y6 z0 z1 z2 z3 z4 z5 z6;clear HB0;generalize hen:Ak n=en at*;generalize her:Ak r=er at*
 go_enter Tryz.func27, Tryz.ntmps27
 go_wp2_with fail;go_loopw [13] (fun i wr=>In Q wr∧(i=.int .i64 0∨(i=.int .i64 1∧en=0)∨(i=.int .i64 2∧en=0∧er=0))) (fun i _=>2-(intOf i).toNat)
 case atStart=>exact⟨hQ1,.inl rfl⟩
 obtain⟨hQw,rfl|⟨rfl,rfl⟩|⟨rfl,rfl,rfl⟩⟩:=hrel
 all_goals clear hQ1
 ·skip
  have x0:=b0 _ hQw;have x1:=b1 _ hQw;have x2:=b2 _ hQw;have x3:=b3 _ hQw;have x4:=b4 _ hQw;have x5:=b5 _ hQw;have x6:=b6 _ hQw;clear y0 y1 y2 y3 y4 y5 y6 z0 z1 z2 z3 z4 z5 z6 b0 b1 b2 b3 b4 b5 b6 b7 b8 b9 b10 b11 b12 b13 HW;have hQ2:=hQ.alloc _ (.cells #[.slice sa n.store.length sc,.slice ra n.refs.length rc,.int .i64 n.gen,.int .i64 n.phase,.slice oa n.pend.objects.length oc,.slice ua n.pend.updates.length uc,.bool n.pend.force] 34) hQw;by_cases hz:en=0
  ·subst hz
   go_wp2_with fail;refine(HC.out _ hQ2).mono ?_;rintro e w1 ⟨rfl,hb1⟩;have hQ3:=hQn _ _ hQ2 hb1;go_wp2_with fail;go_roundw
   case rel=>exact⟨hQ3,.inr (.inl ⟨rfl,by simp⟩)⟩
   case measure=>simp[intOf]
  ·have HE2:=zh (show IH n r=en by rw[HE.out,if_pos hz])
   have HR2:=zh (show Fe n r=BE by rw[HR.out,HE2.out,if_neg hz]);have hq:(en !=0)=true:=by simpa using hz
   clear hz;go_wp2_with fail;refine(HC.out _ hQ2).mono ?_;rintro e w1 ⟨rfl,hb1⟩;have hQ3:=hQn _ _ hQ2 hb1;clear x0 x1 x2 x3 x4 x5 x6;have hblk:=HZ.out _ hQ3;simp only[Ft] at hblk;obtain⟨g0,g1,g2,g3,g4,g5,g6⟩:=bc7 hblk;obtain⟨f0,f1,f2,f3,f4,f5,f6⟩:=bf7 hblk;go_wp2_with fail;change bodyPost _ _ _ _ _ (Bg (w.heap.size+2) (.slice none 0 0) (.slice none 0 0) (.int .i64 0) (.int .i64 0) (.slice none 0 0) (.slice none 0 0) (.bool false) w1);have hb7:=AZ (v0:=.slice none 0 0) (v1:=.slice none 0 0) (v2:=.int .i64 0) (v3:=.int .i64 0) (v4:=.slice none 0 0) (v5:=.slice none 0 0) (v6:=.bool false) hblk;have hu7:=AM (w.heap.size+2) (.slice none 0 0) (.slice none 0 0) (.int .i64 0) (.int .i64 0) (.slice none 0 0) (.slice none 0 0) (.bool false) w1;generalize Bg (w.heap.size+2) (.slice none 0 0) (.slice none 0 0) (.int .i64 0) (.int .i64 0) (.slice none 0 0) (.slice none 0 0) (.bool false) w1=w7 at*;obtain⟨k0,k1,k2,k3,k4,k5,k6⟩:=bc7 hb7;clear g0 g1 g2 g3 g4 g5 g6 f0 f1 f2 f3 f4 f5 f6 hblk hb7;have hsz:=(hQb _ hQ3).size;have hB7:Below w.heap.size w w7:=(hQb _ hQ3).trans (hu7.below (B:=w.heap.size) hsz (fun b hb=>by omega));refine bodyPost_ret (v:=.tuple #[.agg #[.slice none 0 0,.slice none 0 0,.int .i64 0,.int .i64 0,.slice none 0 0,.slice none 0 0,.bool false],.int .i64 en]) (by simp[results,Tryz.results27,go_sem];simp[k0,k1,k2,k3,k4,k5,k6]<;>rfl) rfl ?_;rw[HR2.out,HE2.out];exact⟨_,_,_,_,rfl,Dz _ _,hB7⟩
 ·skip
  have x0:=b7 _ hQw;have x1:=b8 _ hQw;have x2:=b9 _ hQw;have x3:=b10 _ hQw;have x4:=b11 _ hQw;have x5:=b12 _ hQw;have x6:=b13 _ hQw;clear y0 y1 y2 y3 y4 y5 y6 z0 z1 z2 z3 z4 z5 z6 b0 b1 b2 b3 b4 b5 b6 b7 b8 b9 b10 b11 b12 b13 HW;have hQ2:=hQ.alloc _ (.cells #[.slice KF r.store.length MH,.slice ra2 r.refs.length rc2,.int .i64 r.gen,.int .i64 r.phase,.slice oa2 r.pend.objects.length oc2,.slice ua2 r.pend.updates.length uc2,.bool r.pend.force] 34) hQw;by_cases hz:er=0
  ·subst hz
   go_wp2_with fail;refine(HD.out _ hQ2).mono ?_;rintro e w1 ⟨rfl,hb1⟩;have hQ3:=hQn _ _ hQ2 hb1;go_wp2_with fail;go_roundw
   case rel=>exact⟨hQ3,.inr (.inr ⟨rfl,by simp⟩)⟩
   case measure=>simp[intOf]
  ·have HE2:=zh (show IH n r=er by rw[HE.out,if_neg (by simp),if_pos hz])
   have HR2:=zh (show Fe n r=BE by rw[HR.out,HE2.out,if_neg hz]);have hq:(er !=0)=true:=by simpa using hz
   clear hz;go_wp2_with fail;refine(HD.out _ hQ2).mono ?_;rintro e w1 ⟨rfl,hb1⟩;have hQ3:=hQn _ _ hQ2 hb1;clear x0 x1 x2 x3 x4 x5 x6;have hblk:=HZ.out _ hQ3;simp only[Ft] at hblk;obtain⟨g0,g1,g2,g3,g4,g5,g6⟩:=bc7 hblk;obtain⟨f0,f1,f2,f3,f4,f5,f6⟩:=bf7 hblk;go_wp2_with fail;change bodyPost _ _ _ _ _ (Bg (w.heap.size+2) (.slice none 0 0) (.slice none 0 0) (.int .i64 0) (.int .i64 0) (.slice none 0 0) (.slice none 0 0) (.bool false) w1);have hb7:=AZ (v0:=.slice none 0 0) (v1:=.slice none 0 0) (v2:=.int .i64 0) (v3:=.int .i64 0) (v4:=.slice none 0 0) (v5:=.slice none 0 0) (v6:=.bool false) hblk;have hu7:=AM (w.heap.size+2) (.slice none 0 0) (.slice none 0 0) (.int .i64 0) (.int .i64 0) (.slice none 0 0) (.slice none 0 0) (.bool false) w1;generalize Bg (w.heap.size+2) (.slice none 0 0) (.slice none 0 0) (.int .i64 0) (.int .i64 0) (.slice none 0 0) (.slice none 0 0) (.bool false) w1=w7 at*;obtain⟨k0,k1,k2,k3,k4,k5,k6⟩:=bc7 hb7;clear g0 g1 g2 g3 g4 g5 g6 f0 f1 f2 f3 f4 f5 f6 hblk hb7;have hsz:=(hQb _ hQ3).size;have hB7:Below w.heap.size w w7:=(hQb _ hQ3).trans (hu7.below (B:=w.heap.size) hsz (fun b hb=>by omega));refine bodyPost_ret (v:=.tuple #[.agg #[.slice none 0 0,.slice none 0 0,.int .i64 0,.int .i64 0,.slice none 0 0,.slice none 0 0,.bool false],.int .i64 er]) (by simp[results,Tryz.results27,go_sem];simp[k0,k1,k2,k3,k4,k5,k6]<;>rfl) rfl ?_;rw[HR2.out,HE2.out];exact⟨_,_,_,_,rfl,Dz _ _,hB7⟩
 rw[if_neg (by simp),if_neg (by simp)] at HE;have x0:=y0 _ hQw;have u0:=z0 _ hQw;have x1:=y1 _ hQw;have u1:=z1 _ hQw;have x2:=y2 _ hQw;have u2:=z2 _ hQw;have x3:=y3 _ hQw;have u3:=z3 _ hQw;have x4:=y4 _ hQw;have u4:=z4 _ hQw;have x5:=y5 _ hQw;have u5:=z5 _ hQw;have x6:=y6 _ hQw;have u6:=z6 _ hQw;clear y0 y1 y2 y3 y4 y5 y6 z0 z1 z2 z3 z4 z5 z6 b0 b1 b2 b3 b4 b5 b6 b7 b8 b9 b10 b11 b12 b13;go_wp2_with fail;refine(HW.out _ hQw (by simp) (by simp)).mono ?_;rintro e w1 ⟨sv3,rv3,ov3,uv3,rfl,hv,hb1⟩;have hQ2:=hQn _ _ hQw hb1;obtain⟨sa3,ZY,rfl⟩:=hv.store.vshape;obtain⟨⟨ra3,rc3⟩,rfl⟩:=hv.refs.shape;obtain⟨oa3,oc3,rfl⟩:=hv.objs.vshape;obtain⟨⟨ua3,uc3⟩,rfl⟩:=hv.upds.shape;have Hv:=zh (hv.weaken (S':=fun b=>w.heap.size+2<b) (fun b hb=>by have:=lt_of_block (HZ.out _ hQw);omega));clear hv;have HR2:=zh (show Fe n r=Bh n r by rw[HR.out,HE.out];by_cases h:Bq n r=0;rw[if_pos h];rw[if_neg h,HR0.out h]);generalize Bh n r=rr at*;generalize Bq n r=re at*;simp only[AO];have hblk:=HZ.out _ hQ2;simp only[Ft] at hblk;obtain⟨g0,g1,g2,g3,g4,g5,g6⟩:=bc7 hblk;obtain⟨f0,f1,f2,f3,f4,f5,f6⟩:=bf7 hblk;clear x0 x1 x2 x3 x4 x5 x6 u0 u1 u2 u3 u4 u5 u6;go_wp2_with fail;change bodyPost _ _ _ _ _ (Bg (w.heap.size+2) (.slice sa3 rr.store.length ZY) (.slice ra3 rr.refs.length rc3) (.int .i64 rr.gen) (.int .i64 rr.phase) (.slice oa3 rr.pend.objects.length oc3) (.slice ua3 rr.pend.updates.length uc3) (.bool rr.pend.force) w1);have hb7:=AZ (v0:=.slice sa3 rr.store.length ZY) (v1:=.slice ra3 rr.refs.length rc3) (v2:=.int .i64 rr.gen) (v3:=.int .i64 rr.phase) (v4:=.slice oa3 rr.pend.objects.length oc3) (v5:=.slice ua3 rr.pend.updates.length uc3) (v6:=.bool rr.pend.force) hblk
 have hu7:=AM (w.heap.size+2) (.slice sa3 rr.store.length ZY) (.slice ra3 rr.refs.length rc3) (.int .i64 rr.gen) (.int .i64 rr.phase) (.slice oa3 rr.pend.objects.length oc3) (.slice ua3 rr.pend.updates.length uc3) (.bool rr.pend.force) w1;generalize Bg (w.heap.size+2) (.slice sa3 rr.store.length ZY) (.slice ra3 rr.refs.length rc3) (.int .i64 rr.gen) (.int .i64 rr.phase) (.slice oa3 rr.pend.objects.length oc3) (.slice ua3 rr.pend.updates.length uc3) (.bool rr.pend.force) w1=w7 at*;obtain⟨k0,k1,k2,k3,k4,k5,k6⟩:=bc7 hb7;clear g0 g1 g2 g3 g4 g5 g6 f0 f1 f2 f3 f4 f5 f6 hblk hb7;have hsz:=(hQb _ hQ2).size;have hB7:Below w.heap.size w w7:=(hQb _ hQ2).trans (hu7.below (B:=w.heap.size) hsz (fun b hb=>by omega));have Hv7:=(Hv.out.upd hu7 (fun b hb e=>by omega)).weaken (S':=fun b=>w.heap.size≤b) (fun b hb=>by omega);refine bodyPost_ret (v:=.tuple #[.agg #[.slice sa3 rr.store.length ZY,.slice ra3 rr.refs.length rc3,.int .i64 rr.gen,.int .i64 rr.phase,.slice oa3 rr.pend.objects.length oc3,.slice ua3 rr.pend.updates.length uc3,.bool rr.pend.force],.int .i64 re]) (by simp[results,Tryz.results27,go_sem];simp[k0,k1,k2,k3,k4,k5,k6]<;>rfl) rfl ?_;rw[HR2.out,HE.out];exact⟨_,_,_,_,rfl,Hv7,hB7⟩
variable [Ghost]
theorem Zm {l a:List Obj} (hs:∀x∈l,x∈a) (ha:AD a):Es l a=0∧CE l a=[]:=by
 have h0:Es l a=0:=PT.2 fun x hx _=>(ha.isAt_mem (hs x hx)).2
 refine⟨h0,?_⟩;unfold CE;rw[if_pos h0];unfold Jn;rw[List.filter_eq_nil_iff];intro x hx;unfold NU;rw[(ha.isAt_mem (hs x hx)).1];simp
theorem Zw {l more:List Obj} (h:Cd l more=0):Aj (Cs l more)=0∧∀x,x∈Cs l more↔x∈l∨x∈more:=by
 have e:Cs l more=Aq l more more.length:=by unfold Cs;rw[if_pos h]
 unfold Cd at h;by_cases h2:An (BT l more) more.length=0
 ·rw[if_pos h2] at h
  rw[e];exact⟨h,fun x=>by rw[FK (Nat.le_refl _) h2 x,List.take_length]⟩
 ·rw[if_neg h2] at h;exact absurd h h2
structure LB (n r a:Am):Prop where
 newer:Ak n=0
 older:Ak r=0
 refs:a.refs=n.refs
 gen:a.gen=n.gen
 phase:a.phase=0
 pend:a.pend=CU
 store:Aj a.store=0
 mem:∀x,x∈a.store↔x∈r.store∨x∈n.store
theorem ZR {n r:Am} (h:IH n r=0):LB n r (Fe n r):=by
 have hR:Fe n r=Bh n r:=by unfold Fe;rw[if_pos h]
 unfold IH at h;split at h
 ·rename_i h1;exact absurd h h1
 ·rename_i h1
  split at h
  ·rename_i h2;exact absurd h h2
  ·rename_i h2
   have hn:Ak n=0:=by simpa using h1
   have hr:Ak r=0:=by simpa using h2
   have hR2:Bh n r=⟨Cs r.store (CE n.store r.store),n.refs,n.gen,0,CU⟩:=by unfold Bh;rw[if_pos h]
   unfold Bq at h;split at h
   ·cases h
   ·split at h
    ·rename_i h3;exact absurd h h3
    ·rename_i h3
     have h4:Es n.store r.store=0:=by simpa using h3
     obtain⟨hc,hm⟩:=Zw h;rw[hR,hR2];refine⟨hn,hr,rfl,rfl,rfl,rfl,hc,fun x=>?_⟩;rw[hm];have hl:CE n.store r.store=Jn n.store r.store:=by unfold CE;rw[if_pos h4]
     rw[hl];constructor
     ·rintro(hx|hx)
      ·exact .inl hx
      ·exact .inr (RZ.1 hx).1
     ·rintro(hx|hx)
      ·exact .inl hx
      ·cases hi:CO r.store x.id
       ·exact .inr (RZ.2 ⟨hx,hi⟩)
       ·left
        have:=PT.1 h4 x hx hi;rw[←this];exact Gg (LY hi).1
theorem XE {l a:List Obj} (hs:∀x∈l,x∈a) (ha:AD a) {id:Int} {k:Int} (h:AC l id=k) (hk:k≠0):AC a id=k:=by
 obtain⟨j,hj,he,hkj⟩:=FM (by rw[h];exact hk);obtain⟨i,hi,e⟩:=Io (hs _ (Gg hj));have:=ha.kind_self hi;rw[e,he] at this;rw[this,←hkj,h]
theorem Yd {l:List Rf} {s a:List Obj} (hs:∀x∈s,x∈a) (ha:Aj a=0) (h:Ap l s=0):Ap l a=0:=by
 have hs0:=(Bz.1 h).1;have h1:AE l s=0:=by unfold Ap at h;rw[if_neg (by simpa using hs0)] at h;exact h
 have e:∀i,i<l.length→BW l s i=0→BW l a i=0:=fun i hi h0=>by
  rw[Ju] at h0⊢;exact⟨h0.1,h0.2.1,XE hs (AS ha) h0.2.2 (by decide)⟩
 unfold Ap;rw[if_neg (by simpa using ha)];unfold AE at h1⊢;split at h1
 ·cases h1
 ·rename_i h8
  rw[if_neg h8];split at h1
  ·rename_i h2;exact absurd h1 h2
  ·rename_i h2
   have h3:An (BW l s) l.length=0:=by simpa using h2
   have h4:An (BW l a) l.length=0:=Bd fun i hi=>e i hi (Bn h3 i hi)
   rw[if_neg (by simpa using h4)];exact h1
theorem So {r:Am} (h:Ak r=0):Ap r.refs r.store=0∧within r.gen 0 999=true:=by
 unfold Ak at h;split at h
 ·rename_i h1;exact absurd h h1
 ·rename_i h1
  refine⟨by simpa using h1,?_⟩;split at h
  ·cases h
  ·rename_i h2;simpa using h2
theorem LB.right {n r a:Am} (h:LB n r a):Ak a=0:=by
 obtain⟨h1,h2⟩:=So h.newer;unfold Ak;have hc:Ap a.refs a.store=0:=by rw[h.refs];exact Yd (fun x hx=>(h.mem x).2 (.inr hx)) h.store h1
 rw[if_neg (by simpa using hc),h.gen,h2,h.phase,h.pend];simp[within,BR,CU]
theorem LB.diff {n r a:Am} (h:LB n r a) {s:List Obj} (hc:Aj s=0) (hs:∀x∈s,x∈a.store):Ur s a.store=0∧ZE s a.store=[]:=by
 obtain⟨e1,e2⟩:=Zm hs (AS h.store);have h0:Ur s a.store=0:=by unfold Ur;rw[if_neg (by simpa using hc),if_neg (by simpa using h.store)];exact e1
 refine⟨h0,?_⟩;unfold ZE;rw[if_pos h0];unfold CE at e2;rw[if_pos e1] at e2;exact e2
variable [Ghost]
theorem Pm {n r:Am} (hn:Cx n) (hr:Cx r) (h:Bq n r=0):LB n r (Bh n r):=by
 have e1:IH n r=0:=by
  unfold IH;rw[if_neg (by simpa using Bm.2 hn),if_neg (by simpa using Bm.2 hr)];exact h
 have e2:Fe n r=Bh n r:=by unfold Fe;rw[if_pos e1]
 rw[←e2];exact ZR e1
theorem Ks {l:List Am} (hl:l.length=3):BS l<3∧∀k,k<3→(Ag l k).gen≤(Ag l (BS l)).gen:=by
 refine⟨by have:=GZ (l:=l) (by omega);omega,fun k hk=>(IW l l.length).1 k (by omega)⟩
structure Rb (l:List Am) (i:Nat) (r:Am):Prop where
 i3:i<3
 right:Cx r
 has:∃m,m<3∧r.gen=(Ag l m).gen∧r.refs=(Ag l m).refs∧(m=i∨m=BS l)
theorem Rb.at {l:List Am} {i:Nat} {r:Am} (h:Rb l i r) (hc:BC l) {k:Nat} (hk:k<3):∃m,m<3∧(Ag (l.set i r) k).gen=(Ag l m).gen∧(Ag (l.set i r) k).refs=(Ag l m).refs∧(m=k∨m=BS l):=by
 rw[DA (by have:=hc.len;omega)];by_cases e:k=i
 ·subst e;rw[if_pos rfl];exact h.has
 ·rw[if_neg e];exact⟨k,hk,rfl,rfl,.inl rfl⟩
theorem Rb.top {l:List Am} {i:Nat} {r:Am} (h:Rb l i r) (hc:BC l) {k:Nat} (hk:k<3) (hg:(Ag l k).gen=(Ag l (BS l)).gen):(Ag (l.set i r) k).gen=(Ag l (BS l)).gen:=by
 obtain⟨m,_,e,_,h4⟩:=h.at hc hk;rw[e];rcases h4 with rfl|rfl
 ·exact hg
 ·rfl
theorem Rb.most {l:List Am} {i:Nat} {r:Am} (h:Rb l i r) (hc:BC l) {k:Nat} (hk:k<3):(Ag (l.set i r) k).gen≤(Ag l (BS l)).gen:=by
 obtain⟨m,hm,e,_,_⟩:=h.at hc hk;rw[e];exact(Ks hc.len).2 m hm
theorem VQ {l:List Am} {i:Nat} {r:Am} (hc:BC l) (h:Rb l i r):BC (l.set i r):=by
 obtain⟨hb,hm⟩:=Ks hc.len;refine⟨by rw[List.length_set];exact hc.len,fun k hk=>?_,fun a b ha hb2 e=>?_,?_⟩
 ·rw[DA (by have:=hc.len;omega)]
  split
  ·exact h.right
  ·exact hc.each k hk
 ·obtain⟨m,m3,e1,e2,_⟩:=h.at hc ha
  obtain⟨n,n3,e3,e4,_⟩:=h.at hc hb2;rw[e2,e4];exact hc.refs m n m3 n3 (by rw[←e1,←e3];exact e)
 ·obtain⟨x,y,hxy,hy,exy,hmx⟩:=hc.top
  have gx:(Ag l x).gen=(Ag l (BS l)).gen:=by have:=hm x (by omega);have:=hmx _ hb;omega
  have gy:(Ag l y).gen=(Ag l (BS l)).gen:=by omega
  exact⟨x,y,hxy,hy,by rw[h.top hc (by omega) gx,h.top hc hy gy],fun k hk=>by rw[h.top hc (by omega) gx];exact h.most hc hk⟩
theorem Qg {l:List Am} {a:Ac} (hc:BC l) (he:Dt l a=0) (hk:a.kind≠1):∃i r,EH l a=l.set i r∧Rb l i r:=by
 have hf:Cu a=0:=by unfold Dt at he;split at he;rename_i h;exact absurd he h;rename_i h;simpa using h
 obtain⟨_,_,h3,h4⟩:=PI hf;have hi:a.on.toNat<3:=by omega
 unfold Dt at he;rw[if_neg (by simpa using hf),if_neg hk] at he;unfold EH;rw[if_neg hk];by_cases h2:a.kind=2
 ·rw[if_pos h2] at he⊢
  have hb:=(Ks hc.len).1;have hm:=Pm (hc.each _ hb) (hc.each _ hi) he;exact⟨_,_,rfl,hi,Bm.1 hm.right,BS l,hb,hm.gen,hm.refs,.inr rfl⟩
 ·rw[if_neg h2]
  exact⟨_,_,rfl,hi,Tl (hc.each _ hi),_,hi,rfl,rfl,.inl rfl⟩
theorem LG {l:List Am} {a:Ac} (hc:BC l) (he:Dt l a=0):BC (EH l a):=by
 by_cases hk:a.kind=1
 ·have hp:BK l a.push a.up a.late=0:=by
   unfold Dt at he;split at he
   ·rename_i h;exact absurd he h
   ·first|exact he|(rw[if_pos hk] at he;exact he)
  unfold EH;rw[if_pos hk];exact TG hc hp
 ·obtain⟨i,r,e,h⟩:=Qg hc he hk
  rw[e];exact VQ hc h
def bI:Ac:=⟨0,0,0,0,CU⟩
def ac (l:List Ac) (i:Nat):Ac:=at_ bI l i
def Ff (l:List Am) (a:Ac):List Am:=if Dt l a=0 then EH l a else l
def Fi (l:List Am) (a:Ac):Bool:=if Dt l a=0 then MQ l a else false
def Vv:List Am:=[BE,BE,BE]
def EB (s:List Ac):Nat→List Am
 |0=>Vv
 |k+1=>Ff (EB s k) (ac s k)
def Sv (s:List Ac):Nat→List Bool
 |0=>[]
 |k+1=>Sv s k++[Fi (EB s k) (ac s k)]
def Me (s:List Ac):Nat→List Int
 |0=>[]
 |k+1=>Me s k++[Dt (EB s k) (ac s k)]
theorem MB (s:List Ac):∀k,(Me s k).length=k
 |0=>rfl
 |k+1=>by unfold Me;rw[List.length_append,MB s k];rfl
theorem Vw:BC Vv:=Em.1 (by decide+kernel)
theorem OH {l:List Am} {a:Ac} (h:BC l):BC (Ff l a):=by
 unfold Ff;split
 ·exact LG h (by assumption)
 ·exact h
theorem FF (s:List Ac):∀k,BC (EB s k)
 |0=>Vw
 |k+1=>OH (FF s k)
variable [Ghost]
structure AV where
 o:Value
 u:Value
def ZD (a:Ac) (x:AV):List Value:=[.int .i64 a.kind,.int .i64 a.on,.int .i64 a.up,.int .i64 a.late,x.o,x.u,.bool a.push.force]
def GD (S:Nat→Prop) (w:World) (v:Value) (l:List Ac):Prop:=
 ∃vs:Nat→AV,Sl S w v 7 88 l.length (fun i=>ZD (ac l i) (vs i))∧∀i,i<l.length→DC S w (ac l i) (vs i).o (vs i).u
theorem GD.below {S:Nat→Prop} {w w':World} {v:Value} {l:List Ac} (h:GD S w v l) (hb:Below w.heap.size w w'):GD S w' v l:=
 let⟨vs,h1,h2⟩:=h;⟨vs,h1.below hb,fun i hi=>(h2 i hi).below hb⟩
theorem GD.weaken {S S':Nat→Prop} {w:World} {v:Value} {l:List Ac} (h:GD S w v l) (hs:∀b,S b→S' b):GD S' w v l:=
 let⟨vs,h1,h2⟩:=h;⟨vs,h1.weaken hs,fun i hi=>(h2 i hi).weaken hs⟩
theorem GD.vshape {S:Nat→Prop} {w:World} {v:Value} {l:List Ac} (h:GD S w v l):∃a c,v=.slice a l.length c:=
 let⟨_,⟨a,cap,hv,_⟩,_⟩:=h;⟨a,cap,hv⟩
structure AA where
 oa:Option Addr
 oc:Nat
 ua:Option Addr
 uc:Nat
def AA.av (x:AA) (r:Ac):AV:=⟨.slice x.oa r.push.objects.length x.oc,.slice x.ua r.push.updates.length x.uc⟩
theorem DC.aa {S:Nat→Prop} {w:World} {r:Ac} {x:AV} (h:DC S w r x.o x.u):∃y:AA,x=y.av r:=by
 obtain⟨oa,oc,e3⟩:=Ai.vshape h.objs;obtain⟨⟨ua,uc⟩,e4⟩:=AJ.shape h.upds;exact⟨⟨oa,oc,ua,uc⟩,by cases x;simp_all [AA.av]⟩
theorem GD.open {S:Nat→Prop} {w:World} {v:Value} {l:List Ac} (h:GD S w v l):
  ∃a n cap,∃f:Nat→AA,Hid (n=l.length)∧v=.slice a n cap∧n≤cap∧cap≤9223372036854775807∧n*88≤140737488351232∧
   (0<n→∃b off,a=some ⟨b,off,none⟩∧S b∧
    (∀i x,i<n→Below w.heap.size w x→x.cell? ⟨b,off+i*7,none⟩=some (.int .i64 (ac l i).kind))∧
    (∀i x,i<n→Below w.heap.size w x→x.cell? ⟨b,off+i*7+1,none⟩=some (.int .i64 (ac l i).on))∧
    (∀i x,i<n→Below w.heap.size w x→x.cell? ⟨b,off+i*7+2,none⟩=some (.int .i64 (ac l i).up))∧
    (∀i x,i<n→Below w.heap.size w x→x.cell? ⟨b,off+i*7+3,none⟩=some (.int .i64 (ac l i).late))∧
    (∀i x,i<n→Below w.heap.size w x→x.cell? ⟨b,off+i*7+4,none⟩=some (.slice (f i).oa (ac l i).push.objects.length (f i).oc))∧
    (∀i x,i<n→Below w.heap.size w x→x.cell? ⟨b,off+i*7+5,none⟩=some (.slice (f i).ua (ac l i).push.updates.length (f i).uc))∧
    (∀i x,i<n→Below w.heap.size w x→x.cell? ⟨b,off+i*7+6,none⟩=some (.bool (ac l i).push.force)))∧
   (∀i,i<n→DC S w (ac l i) (.slice (f i).oa (ac l i).push.objects.length (f i).oc) (.slice (f i).ua (ac l i).push.updates.length (f i).uc)):=by
 obtain⟨vs,h1,h2⟩:=h;have hp:∃f:Nat→AA,∀i,i<l.length→vs i=(f i).av (ac l i):=by
  refine⟨fun i=>if hi:i<l.length then Classical.choose (h2 i hi).aa else⟨none,0,none,0⟩,fun i hi=>?_⟩;simp only[hi,dif_pos];exact Classical.choose_spec (h2 i hi).aa
 obtain⟨f,hf⟩:=hp;obtain⟨a,cap,hv,h3,h4,h5,h6⟩:=h1;refine⟨a,l.length,cap,f,rfl,hv,h3,h4,h5,fun hn=>?_,fun i hi=>?_⟩
 ·obtain⟨b,off,ha,hS,hc⟩:=h6 hn
  have hc':∀i x,i<l.length→Below w.heap.size w x→∀j u,(ZD (ac l i) ((f i).av (ac l i)))[j]?=some u→x.cell? ⟨b,off+i*7+j,none⟩=some u:=
   fun i x hi hb j u hu=>Ae hb (hc i hi j u (by show(ZD (ac l i) (vs i))[j]?=some u;rw[hf i hi];exact hu))
  exact⟨b,off,ha,hS.1,fun i x hi hb=>hc' i x hi hb 0 _ rfl,fun i x hi hb=>hc' i x hi hb 1 _ rfl,fun i x hi hb=>hc' i x hi hb 2 _ rfl,fun i x hi hb=>hc' i x hi hb 3 _ rfl,fun i x hi hb=>hc' i x hi hb 4 _ rfl,fun i x hi hb=>hc' i x hi hb 5 _ rfl,fun i x hi hb=>hc' i x hi hb 6 _ rfl⟩
 ·have:=h2 i hi
  rw[hf i hi] at this;exact this
theorem Tryz.infoErr:(Tryz.prog.info? 37).map (fun i=>(i.zero,i.size,i.bytes))=some (some (.int .i64 0),1,8):=by kernel_rfl
theorem KE {ops:Array Oper} {IM:List Oper} {o:Oper} {a:Act} {w:World} {Q:Exit→Act→World→Prop} (hgd:o.guard=none) (s x:Operand)
  (ho:o.op=.call {callee:=.builtin .append,args:=#[s,x],argTypes:=#[44,44]}) {B n:Nat} {v:Value} {xs:List Value} {z:Bool}
  (hG:w.ownsRow B 4 1 v n xs) (hl:(n+1)*8≤140737488351232) (hB:B≤w.heap.size)
  (hs:a.eval s=v) {N:Nat} (hx:a.eval x=.slice (some ⟨N,0,none⟩) 1 1) (hN:N=w.heap.size)
  (h:∀v' w',w'.ownsRow B 4 1 v' (n+1) (xs++[.bool z])→AK (fun b=>v.ownBlock=some b) w w'→(v'.ownBlock=v.ownBlock∨v'.ownBlock=some (w.heap.size+1))→wpList Tryz.prog ops Q IM (a.put o.dst v') w'):
  wpList Tryz.prog ops Q (o::IM) a (w.alloc (.cells #[.bool z] 4)):=by
 subst hN;obtain⟨i0,hi,hz0,hz1,hz2⟩:=info_parts Tryz.infoBool;refine wpList_append_own_at _ hgd s x 44 ho B 4 i0 _ 1 1 Tryz.underlying44 hi hz0 hz1 hz2 rfl (by decide) v n _ hs (hG.alloc _) ⟨w.heap.size,0,none⟩ 1 1 [.bool z] hx rfl
  (World.news_of_block (cs:=#[.bool z]) (t:=4) (fr:=(0,0)) (heap_alloc_new w _)) ?_ ?_ (by omega) (by simp;omega) ?_
 ·intro u hu
  simp only[List.mem_cons,List.not_mem_nil,or_false] at hu;subst hu;rfl
 ·unfold maxLen;omega
 ·intro v' w' hown' hgrow _ hat
  exact h v' w' hown' (AK.grown ((AK.refl _ _).alloc _) hgrow (fun k hk _=>hk)) (by simpa using hat)
theorem Lz {ops:Array Oper} {IM:List Oper} {o:Oper} {a:Act} {w:World} {Q:Exit→Act→World→Prop} (hgd:o.guard=none) (s x:Operand)
  (ho:o.op=.call {callee:=.builtin .append,args:=#[s,x],argTypes:=#[45,45]}) {B n:Nat} {v:Value} {xs:List Value} {z:Int}
  (hG:w.ownsRow B 37 1 v n xs) (hl:(n+1)*8≤140737488351232) (hB:B≤w.heap.size)
  (hs:a.eval s=v) {N:Nat} (hx:a.eval x=.slice (some ⟨N,0,none⟩) 1 1) (hN:N=w.heap.size)
  (h:∀v' w',w'.ownsRow B 37 1 v' (n+1) (xs++[.int .i64 z])→AK (fun b=>v.ownBlock=some b) w w'→(v'.ownBlock=v.ownBlock∨v'.ownBlock=some (w.heap.size+1))→wpList Tryz.prog ops Q IM (a.put o.dst v') w'):
  wpList Tryz.prog ops Q (o::IM) a (w.alloc (.cells #[.int .i64 z] 37)):=by
 subst hN;obtain⟨i0,hi,hz0,hz1,hz2⟩:=info_parts Tryz.infoErr;refine wpList_append_own_at _ hgd s x 45 ho B 37 i0 _ 1 8 Tryz.underlying45 hi hz0 hz1 hz2 rfl (by decide) v n _ hs (hG.alloc _) ⟨w.heap.size,0,none⟩ 1 1 [.int .i64 z] hx rfl
  (World.news_of_block (cs:=#[.int .i64 z]) (t:=37) (fr:=(0,0)) (heap_alloc_new w _)) ?_ ?_ (by omega) (by simp;omega) ?_
 ·intro u hu
  simp only[List.mem_cons,List.not_mem_nil,or_false] at hu;subst hu;rfl
 ·unfold maxLen;omega
 ·intro v' w' hown' hgrow _ hat
  exact h v' w' hown' (AK.grown ((AK.refl _ _).alloc _) hgrow (fun k hk _=>hk)) (by simpa using hat)
end Go.Proofs.YtgbnlmplkealdaaGreatDoor
