
/- DeskB: walks of desk. -/
import Derived.Test.YtgbnlmplkealdaaGreatDoorC32
set_option linter.all false
set_option maxHeartbeats 16000000
set_option maxRecDepth 100000
namespace Go.Proofs.YtgbnlmplkealdaaGreatDoor
open Go.RowKit
variable [Ghost]
theorem PU (g o:Nat) (v0 v1 v2 v3 v4 v5 v6:Value) (w:World):w.setCells g o [v0,v1,v2,v3,v4,v5,v6]=((((((w.setCell ⟨g,o,none⟩ v0).setCell ⟨g,o+1,none⟩ v1).setCell ⟨g,o+2,none⟩ v2).setCell ⟨g,o+3,none⟩ v3).setCell ⟨g,o+4,none⟩ v4).setCell ⟨g,o+5,none⟩ v5).setCell ⟨g,o+6,none⟩ v6:=rfl
theorem JX (K gf i:Nat) (sa:Option Addr) (sc:Nat) (told:Bool) (caps:Array Value) (l:List Am) (R2:Am) (E:Int) (S:Nat→Prop) (Bx:World→Prop) (w:World) (hK:w.heap[K]?=some (.cells #[.slice sa 3 sc,.bool told] 75 (0,0))) (h:Az S w (.slice sa 3 sc) l) (hl:l.length=3) (hi:i<3)
  (hb0:Bx w) (hbb:∀x z,Bx x→Below x.heap.size x z→Bx z) (eg:∀args w,(callFunc gf args).run Tryz.prog w=.ok (.enter gf args) w)
  (hY:∀x sv rv ov uv (S2:Nat→Prop),Bx x→Ax S2 x (Ag l i) sv rv ov uv→Calls Tryz.prog gf (#[AO (Ag l i) sv rv ov uv]++caps) x fun e z=>Fu x z e R2 E):
  Calls Tryz.prog 62 #[.pointer (some ⟨K,0,none⟩),.int .i64 (i:Int),.func (.func gf) #[] caps] w fun e w'=>e=.returned (.int .i64 E)∧(E≠0→Below w.heap.size w w')∧
   (E=0→AK (fun b=>b=K) w w'∧∃v',w'.heap[K]?=some (.cells #[v',.bool true] 75 (0,0))∧DP w.heap.size w' v' (l.set i R2)):=by
 have H:=zh h;have HK:=zh hK;have Hl:=zh hl;have HYg:=zh hY;have HBb:=zh hbb;have HB0:=zh hb0;have k0:=Aa (j:=0) hK rfl;have hKs:K<w.heap.size:=lt_of_block hK;have HOw:=zh (Kt l _ _ w h);clear h hK hl hY hbb hb0
 go_enter Tryz.func62, Tryz.ntmps62
 go_wp2_with fail;refine HOw.out.mono ?_;rintro e w1 ⟨v1,rfl,⟨F,hO,hF⟩,hb1⟩;obtain⟨a1,c1,rfl⟩:=hO.shape;obtain⟨g,rfl⟩:∃g,a1=some ⟨g,0,none⟩:=by
  obtain⟨_,_,⟨_,h2⟩,_⟩:=hO;rcases h2 with⟨e,h0⟩|⟨g,cp,cur,e,_⟩
  ·have:=Hl.out;exfalso;omega
  ·cases e;exact⟨g,rfl⟩
 rw[Hl.out] at hO⊢;have hbX:Below w1.heap.size w1 (w1.alloc (.cells #[.slice (some ⟨g,0,none⟩) 3 c1] 24)):=bal;have hgB:w.heap.size≤g:=(hO.block rfl).1;have hg1:g<w1.heap.size:=(hO.block rfl).2;have hw1:=hb1.size;have HO2:=zh (hO.below hbX);have HX:=zh (heap_alloc_new w1 (.cells #[.slice (some ⟨g,0,none⟩) 3 c1] 24));have HF:=zh hF;have hB2:Below w.heap.size w (w1.alloc (.cells #[.slice (some ⟨g,0,none⟩) 3 c1] 24)):=hb1.trans (hbX.mono hw1);have HB2:=zh hB2;have HBx2:=zh (HBb.out _ _ HB0.out hB2);clear hO hF hb1 hbX hB2 k0 HOw;have hs2:(w1.alloc (.cells #[.slice (some ⟨g,0,none⟩) 3 c1] 24)).heap.size=w1.heap.size+1:=by simp
 go_upto_region 2 with fail;generalize hw2:w1.alloc (.cells #[.slice (some ⟨g,0,none⟩) 3 c1] 24)=w2 at*;clear hw2;obtain⟨Kg,sc0,ra0,rc0,oa0,oc0,ua0,uc0,h5k,hKc⟩:=HO2.out.one (by rw[Hl.out];omega) (show i<l.length by rw[Hl.out];exact hi);obtain⟨x0,x1,x2,x3,x4,x5,x6⟩:=hKc _ (Below.refl _ _);have HKc:=zh hKc;clear hKc;have xx:=Aa (j:=0) HX.out rfl;have hi1:=zk i;have hi2:(i:Int)<3:=by omega
 have HC:=zh (HYg.out w2 _ _ _ _ _ HBx2.out h5k);simp only[AO] at HC;clear h5k;go_wp2_with fail;refine HC.out.mono ?_;rintro e w3 ⟨sv1,rv1,ov1,uv1,rfl,hv,hb3⟩;obtain⟨AU,AX,rfl⟩:=hv.store.vshape;obtain⟨⟨ra1,rc1⟩,rfl⟩:=hv.refs.shape;obtain⟨oa1,oc1,rfl⟩:=hv.objs.vshape;obtain⟨⟨ua1,uc1⟩,rfl⟩:=hv.upds.shape;clear HC xx x0 x1 x2 x3 x4 x5 x6;simp only[AO];have hb4:Below w3.heap.size w3 (w3.alloc (.cells (c7 R2 AU AX ra1 rc1 oa1 oc1 ua1 uc1) 34)):=bal;have hb24:=Al hb3 hb4;have hw3:=hb3.size;have HX4:=zh (Ab HX.out hb24);have HR4:=zh (heap_alloc_new w3 (.cells (c7 R2 AU AX ra1 rc1 oa1 oc1 ua1 uc1) 34));have HO4:=zh (HO2.out.below hb24);have Hv4:=zh (((hv.lt).below hb4).weaken (S':=fun b=>w2.heap.size≤b∧b<w3.heap.size) fun b hb=>hb);have HB4:=zh (HB2.out.trans (hb24.mono HB2.out.size));have HK4:=zh ((HB4.out.block _ hKs).trans HK.out);have hs4:(w3.alloc (.cells (c7 R2 AU AX ra1 rc1 oa1 oc1 ua1 uc1) 34)).heap.size=w3.heap.size+1:=by simp
 obtain⟨z0,z1,z2,z3,z4,z5,z6⟩:=HKc.out _ hb24;clear hv hb3 hb4 hb24 HX HO2 HB2;by_cases hE:E=0
 case neg=>
  have q:(E==0)=false:=by simpa using hE
  have HE:=zh hE;clear hE;go_wp2_with fail;go_ret;exact⟨rfl,fun _=>HB4.out,fun h=>absurd h HE.out⟩
 subst hE;have f0:=HO4.out.free (i*7);have f1:=HO4.out.free (i*7+1);have f2:=HO4.out.free (i*7+2);have f3:=HO4.out.free (i*7+3);have f4:=HO4.out.free (i*7+4);have f5:=HO4.out.free (i*7+5);have f6:=HO4.out.free (i*7+6);obtain⟨r0,r1,r2,r3,r4,r5,r6⟩:=bc7 HR4.out;have y0:=Aa (j:=0) HX4.out rfl;have hset:=HO4.out.set (i:=i) (r:=R2) (x:=⟨.slice AU R2.store.length AX,.slice ra1 R2.refs.length rc1,.slice oa1 R2.pend.objects.length oc1,.slice ua1 R2.pend.updates.length uc1⟩) (show i<l.length by rw[Hl.out];exact hi) (S2:=fun b=>w2.heap.size≤b∧b<w3.heap.size) Hv4.out (fun b hb=>⟨by omega,fun e=>by omega⟩);obtain⟨w5,hw5⟩:∃w5,w5=(w3.alloc (.cells (c7 R2 AU AX ra1 rc1 oa1 oc1 ua1 uc1) 34)).setCells g (i*7) (Ba R2 ⟨.slice AU R2.store.length AX,.slice ra1 R2.refs.length rc1,.slice oa1 R2.pend.objects.length oc1,.slice ua1 R2.pend.updates.length uc1⟩):=⟨_,rfl⟩;rw[←hw5] at hset;have hK5:=hset.2.blk HK4.out (fun e=>by have e2:K=g:=e;omega);have hX5:=hset.2.blk HX4.out (fun e=>by have e2:w1.heap.size=g:=e;omega);have hB5:=HB4.out.trans (hset.2.below (B:=w.heap.size) HB4.out.size (fun b hb=>by have e2:b=g:=hb;omega));have HO5:=zh hset.1;rw[show Ba R2 ⟨.slice AU R2.store.length AX,.slice ra1 R2.refs.length rc1,.slice oa1 R2.pend.objects.length oc1,.slice ua1 R2.pend.updates.length uc1⟩=[.slice AU R2.store.length AX,.slice ra1 R2.refs.length rc1,.int .i64 R2.gen,.int .i64 R2.phase,.slice oa1 R2.pend.objects.length oc1,.slice ua1 R2.pend.updates.length uc1,.bool R2.pend.force] from rfl,PU] at hw5
 have Hw5:=zh hw5;have HK5:=zh hK5;have HX5:=zh hX5;have HB5:=zh hB5;clear hset hw5 hK5 hX5 hB5 HX4 HO4 HB4 HK4;go_upto_region 5 with fail;rw[←Hw5.out];clear f0 f1 f2 f3 f4 f5 f6 r0 r1 r2 r3 r4 r5 r6 z0 z1 z2 z3 z4 z5 z6 y0;have xx:=Aa (j:=0) HX5.out rfl;obtain⟨m0,m1⟩:=bc2 HK5.out;obtain⟨n0,n1⟩:=bf2 HK5.out;have s0:=Ah (j:=0) HK5.out (.slice (some ⟨g,0,none⟩) 3 c1);have s1:=Ah (j:=1) s0 (.bool true);simp only[List.setIfInBounds_toArray,List.set_cons_zero,List.set_cons_succ] at s1;have hu:AK (fun b=>b=K) w5 ((w5.setCell ⟨K,0,none⟩ (.slice (some ⟨g,0,none⟩) 3 c1)).setCell ⟨K,1,none⟩ (.bool true)):=AK.setCell (T:=fun x=>x=K) (AK.setCell (T:=fun x=>x=K) (AK.refl (fun x=>x=K) w5) (p:=⟨K,0,none⟩) (fun _=>rfl) _) (p:=⟨K,1,none⟩) (fun _=>rfl) _;have hu5:AK (fun b=>b=K) w w5:=(Dp HB5.out).weaken (fun b hb h=>by have h2:w.heap.size≤b:=h;omega);have HEnd:=zh (show AK (fun b=>b=K) w ((w5.setCell ⟨K,0,none⟩ (.slice (some ⟨g,0,none⟩) 3 c1)).setCell ⟨K,1,none⟩ (.bool true))∧∃v',((w5.setCell ⟨K,0,none⟩ (.slice (some ⟨g,0,none⟩) 3 c1)).setCell ⟨K,1,none⟩ (.bool true)).heap[K]?=some (.cells #[v',.bool true] 75 (0,0))∧DP w.heap.size ((w5.setCell ⟨K,0,none⟩ (.slice (some ⟨g,0,none⟩) 3 c1)).setCell ⟨K,1,none⟩ (.bool true)) v' (l.set i R2) from
  ⟨hu5.trans hu (fun _ _ h=>h),_,s1,_,HO5.out.upd hu (fun b hb e=>by have e2:b=K:=e;rcases hb with h|h;have:=HF.out b h;omega;omega) (fun q hq e=>by have e2:q=K:=e;have e3:g=q:=(by simpa[Value.ownBlock] using hq);omega),fun b hb=>by rcases hb with h|h;exact HF.out b h;omega⟩)
 clear s0 s1 hu hu5;go_wp2_with fail;go_ret
 first|exact⟨rfl,HEnd.out⟩|exact⟨rfl,fun h=>absurd rfl h,fun _=>HEnd.out⟩
theorem YS (K J D b:Nat) (sa:Option Addr) (sc:Nat) (told:Bool) (l:List Am) (r:Am) (sv rv ov uv:Value) (S S2:Nat→Prop) (w:World) (hK:w.heap[K]?=some (.cells #[.slice sa 3 sc,.bool told] 75 (0,0))) (hJ:w.heap[J]?=some (.cells #[.pointer (some ⟨K,0,none⟩)] 73 (0,0))) (hD:w.heap[D]?=some (.cells #[.int .i64 (b:Int)] 3 (0,0)))
  (h:Az S w (.slice sa 3 sc) l) (hl:l.length=3) (hb:b<3) (hr:Ax S2 w r sv rv ov uv) (hn:(Ag l b).store.length≤40) (hc:Aj r.store=0):
  Calls Tryz.prog 63 #[AO r sv rv ov uv,.pointer (some ⟨J,0,none⟩),.pointer (some ⟨D,0,none⟩)] w fun e w'=>Fu w w' e (Bh (Ag l b) r) (Bq (Ag l b) r):=by
 have H:=zh h;have Hr:=zh hr;obtain⟨AU,AX,e1⟩:=hr.store.vshape;obtain⟨⟨ra1,rc1⟩,e2⟩:=hr.refs.shape;obtain⟨oa1,oc1,e3⟩:=hr.objs.vshape;obtain⟨⟨ua1,uc1⟩,e4⟩:=hr.upds.shape;subst e1 e2 e3 e4;obtain⟨ax,nx,cx,fr,HN,ex,_,_,_,h4,h5⟩:=h.open;obtain rfl:nx=3:=HN.out.trans hl;cases ex;obtain⟨b0,off0,rfl,_,k0,k1,k2,k3,k4,k5,k6⟩:=h4 (by omega);have Hk:=zh (And.intro k0 (And.intro k1 (And.intro k2 (And.intro k3 (And.intro k4 (And.intro k5 k6))))));have H5:=zh h5;clear h h4 h5 HN hr k0 k1 k2 k3 k4 k5 k6;obtain⟨R,hR,hR1,HB0⟩:=AF w [.cells (c7 r AU AX ra1 rc1 oa1 oc1 ua1 uc1) 34];simp only[List.foldl] at hR1;have hRb:=hR.below;have hRn:=hR.next
 have hbw:Below w.heap.size w ((w.alloc (.cells (c7 r AU AX ra1 rc1 oa1 oc1 ua1 uc1) 34)).alloc (.cells z7 34)):=bal.alloc (by simp) _;have hs1:(w.alloc (.cells (c7 r AU AX ra1 rc1 oa1 oc1 ua1 uc1) 34)).heap.size=w.heap.size+1:=by simp
 have hres:((w.alloc (.cells (c7 r AU AX ra1 rc1 oa1 oc1 ua1 uc1) 34)).alloc (.cells z7 34)).heap[w.heap.size+1]?=some (.cells z7 34 (0,0)):=by have:=heap_alloc_new (w.alloc (.cells (c7 r AU AX ra1 rc1 oa1 oc1 ua1 uc1) 34)) (.cells z7 34);rw[hs1] at this;exact this
 have hbox:((w.alloc (.cells (c7 r AU AX ra1 rc1 oa1 oc1 ua1 uc1) 34)).alloc (.cells z7 34)).heap[w.heap.size]?=some (.cells (c7 r AU AX ra1 rc1 oa1 oc1 ua1 uc1) 34 (0,0)):=(((Below.refl (w.heap.size+1) (w.alloc (.cells (c7 r AU AX ra1 rc1 oa1 oc1 ua1 uc1) 34))).alloc (by simp) _).block _ (by omega)).trans (heap_alloc_new w _);have HA:=zh (And.intro hbw (And.intro hres hbox));clear hbw hres hbox HB0 hRb hRn hR1 hR;simp only[AO]
 go_enter Tryz.func63, Tryz.ntmps63
 go_upto_region 1 with fail;clear hs1;obtain⟨w2,hw2⟩:∃w2,w2=((w.alloc (.cells (c7 r AU AX ra1 rc1 oa1 oc1 ua1 uc1) 34)).alloc (.cells z7 34)):=⟨_,rfl⟩;rw[←hw2] at HA⊢;clear hw2;obtain⟨Q,hQ,hQ1,hQu⟩:∃Q:World→Prop,SL w Q∧In Q w2∧(∀x y (T:Nat→Prop),In Q x→AK T x y→(∀b,T b→w.heap.size≤b)→In Q y):=by
  obtain⟨Q,h1,h2,h3⟩:=FD w;exact⟨Q,h1,h1.next _ _ h2 HA.out.1,h3⟩
 have hQb:=hQ.below;have hQn:=hQ.next
 have HQu:=zh hQu;clear hQu;have j0:=fun x (hx:In Q x)=>Ae (hQb _ hx) (Aa (j:=0) hJ rfl)
 have d0:=fun x (hx:In Q x)=>Ae (hQb _ hx) (Aa (j:=0) hD rfl)
 have c0:=fun x (hx:In Q x)=>Ae (hQb _ hx) (Aa (j:=0) hK rfl)
 have e0:=fun x (hx:In Q x)=>Hk.out.1 b x hb (hQb _ hx)
 have e1:=fun x (hx:In Q x)=>Hk.out.2.1 b x hb (hQb _ hx)
 have e2:=fun x (hx:In Q x)=>Hk.out.2.2.1 b x hb (hQb _ hx)
 have e3:=fun x (hx:In Q x)=>Hk.out.2.2.2.1 b x hb (hQb _ hx)
 have e4:=fun x (hx:In Q x)=>Hk.out.2.2.2.2.1 b x hb (hQb _ hx)
 have e5:=fun x (hx:In Q x)=>Hk.out.2.2.2.2.2.1 b x hb (hQb _ hx)
 have e6:=fun x (hx:In Q x)=>Hk.out.2.2.2.2.2.2 b x hb (hQb _ hx)
 have HRr:=zh (fun x (hx:In Q x)=>Gy (Ag l b) r _ _ _ _ _ _ _ _ _ _ x ((H5.out b hb).below (hQb _ hx)) (Hr.out.below (hQb _ hx)) hn hc);simp only[AO] at HRr;obtain⟨rr,hrr⟩:∃rr,rr=Bh (Ag l b) r:=⟨_,rfl⟩;obtain⟨re,hre⟩:∃re,re=Bq (Ag l b) r:=⟨_,rfl⟩;rw[←hrr,←hre] at HRr;have Hrr:=zh hrr;have Hre:=zh hre;clear hrr hre;have HRes:=zh HA.out.2.1;have HBox:=zh HA.out.2.2;clear HA hK hJ hD;have hi1:=zk b;have hi2:(b:Int)<3:=by omega
 refine rh (In (fun x:World=>In Q x∧x.heap[w.heap.size]?=some (.cells (c7 r AU AX ra1 rc1 oa1 oc1 ua1 uc1) 34 (0,0)))) ?_;have hC0:In (fun x:World=>In Q x∧x.heap[w.heap.size]?=some (.cells (c7 r AU AX ra1 rc1 oa1 oc1 ua1 uc1) 34 (0,0))) w2.drew:=show(fun x:World=>In Q x∧x.heap[w.heap.size]?=some (.cells (c7 r AU AX ra1 rc1 oa1 oc1 ua1 uc1) 34 (0,0))) w2.drew from⟨hQ.drew _ hQ1,HBox.out⟩
 have HRes0:=zh (show w2.drew.heap[w.heap.size+1]?=some (.cells z7 34 (0,0)) from HRes.out);generalize hx0:w2.drew=x0 at hC0 HRes0⊢;clear hx0 HRes HBox;refine tk 0 (.pointer (some ⟨K,0,none⟩)) (fun w hSw=>?_) hC0 ?_
 ·have yq:_∧_:=hSw;have yy:=j0 _ yq.1;go_simp
 simp only[tkS];refine tk 1 (.pointer (some ⟨K,0,none⟩)) (fun w hSw=>?_) hC0 ?_
 ·go_simp
 simp only[tkS];refine tk 2 (.pointer (some ⟨K,0,none⟩)) (fun w hSw=>?_) hC0 ?_
 ·go_simp
 simp only[tkS];refine tk 3 (.pointer (some ⟨K,0,none⟩)) (fun w hSw=>?_) hC0 ?_
 ·go_simp
 simp only[tkS];refine tk 4 (.slice (some ⟨b0,off0,none⟩) 3 sc) (fun w hSw=>?_) hC0 ?_
 ·have yq:_∧_:=hSw;have yy:=c0 _ yq.1;go_simp
 simp only[tkS];refine tk 5 (.int .i64 (b:Int)) (fun w hSw=>?_) hC0 ?_
 ·have yq:_∧_:=hSw;have yy:=d0 _ yq.1;go_simp
 simp only[tkS];refine tk 6 (.pointer (some ⟨b0,off0+b*7,none⟩)) (fun w hSw=>?_) hC0 ?_
 ·go_simp
 simp only[tkS];refine tk 7 (.agg (c7 (Ag l b) (fr b).sa (fr b).sc (fr b).ra (fr b).rc (fr b).oa (fr b).oc (fr b).ua (fr b).uc)) (fun w hSw=>?_) hC0 ?_
 ·have yq:_∧_:=hSw;have y0:=e0 _ yq.1;have y1:=e1 _ yq.1;have y2:=e2 _ yq.1;have y3:=e3 _ yq.1;have y4:=e4 _ yq.1;have y5:=e5 _ yq.1;have y6:=e6 _ yq.1;go_simp
 simp only[tkS];refine tk 8 (.agg (c7 r AU AX ra1 rc1 oa1 oc1 ua1 uc1)) (fun w hSw=>?_) hC0 ?_
 ·have yq:_∧_:=hSw;have y0:=Aa (j:=0) yq.2 rfl;have y1:=Aa (j:=1) yq.2 rfl;have y2:=Aa (j:=2) yq.2 rfl;have y3:=Aa (j:=3) yq.2 rfl;have y4:=Aa (j:=4) yq.2 rfl;have y5:=Aa (j:=5) yq.2 rfl;have y6:=Aa (j:=6) yq.2 rfl;go_simp
 simp only[tkS];refine al1 9 ?_;refine Or.inl ?_;have hq0:=(show _∧_ from hC0);go_wp2_with fail;refine(HRr.out _ hq0.1).mono ?_;rintro e x1 ⟨sv5,rv5,ov5,uv5,rfl,hv,hb1⟩;obtain⟨sa5,Ek,rfl⟩:=hv.store.vshape;obtain⟨⟨ra5,rc5⟩,rfl⟩:=hv.refs.shape;obtain⟨oa5,oc5,rfl⟩:=hv.objs.vshape;obtain⟨⟨ua5,uc5⟩,rfl⟩:=hv.upds.shape;have hC1:In (fun x:World=>In Q x∧x.heap[w.heap.size]?=some (.cells (c7 r AU AX ra1 rc1 oa1 oc1 ua1 uc1) 34 (0,0))) x1:=show(fun x:World=>In Q x∧x.heap[w.heap.size]?=some (.cells (c7 r AU AX ra1 rc1 oa1 oc1 ua1 uc1) 34 (0,0))) x1 from⟨hQn _ _ hq0.1 hb1,Ab hq0.2 hb1⟩
 have hxs:=(hQb _ hq0.1).size;have hrs:=lt_of_block HRes0.out;have HRes1:=zh (Ab HRes0.out hb1);have Hv:=zh (hv.weaken (S':=fun b=>w.heap.size≤b∧b≠w.heap.size+1) fun b hb=>by omega);clear hv hb1 hxs hrs hq0 HRes0;simp only[AO];go_simp;refine tk 10 (.agg (c7 rr sa5 Ek ra5 rc5 oa5 oc5 ua5 uc5)) (fun w hSw=>?_) hC1 ?_
 ·go_simp
 simp only[tkS];refine tk 11 (.int .i64 re) (fun w hSw=>?_) hC1 ?_
 ·go_simp
 simp only[tkS];refine al1 12 ?_;refine Or.inl ?_;have hblk:=HRes1.out;obtain⟨g0,g1,g2,g3,g4,g5,g6⟩:=bc7 hblk;obtain⟨f0,f1,f2,f3,f4,f5,f6⟩:=bf7 hblk;have Hb7:=zh (AZ (v0:=.slice sa5 rr.store.length Ek) (v1:=.slice ra5 rr.refs.length rc5) (v2:=.int .i64 rr.gen) (v3:=.int .i64 rr.phase) (v4:=.slice oa5 rr.pend.objects.length oc5) (v5:=.slice ua5 rr.pend.updates.length uc5) (v6:=.bool rr.pend.force) hblk);have Hu7:=zh (AM (w.heap.size+1) (.slice sa5 rr.store.length Ek) (.slice ra5 rr.refs.length rc5) (.int .i64 rr.gen) (.int .i64 rr.phase) (.slice oa5 rr.pend.objects.length oc5) (.slice ua5 rr.pend.updates.length uc5) (.bool rr.pend.force) x1);have hqk:=(show _∧_ from hC1);have hQ7:In Q (Bg (w.heap.size+1) (.slice sa5 rr.store.length Ek) (.slice ra5 rr.refs.length rc5) (.int .i64 rr.gen) (.int .i64 rr.phase) (.slice oa5 rr.pend.objects.length oc5) (.slice ua5 rr.pend.updates.length uc5) (.bool rr.pend.force) x1):=HQu.out _ _ _ hqk.1 Hu7.out (fun b hb=>by have e2:b=w.heap.size+1:=hb;omega);have hC2:In (fun x:World=>In Q x∧x.heap[w.heap.size]?=some (.cells (c7 r AU AX ra1 rc1 oa1 oc1 ua1 uc1) 34 (0,0))) (Bg (w.heap.size+1) (.slice sa5 rr.store.length Ek) (.slice ra5 rr.refs.length rc5) (.int .i64 rr.gen) (.int .i64 rr.phase) (.slice oa5 rr.pend.objects.length oc5) (.slice ua5 rr.pend.updates.length uc5) (.bool rr.pend.force) x1):=show(fun x:World=>In Q x∧x.heap[w.heap.size]?=some (.cells (c7 r AU AX ra1 rc1 oa1 oc1 ua1 uc1) 34 (0,0))) (Bg (w.heap.size+1) (.slice sa5 rr.store.length Ek) (.slice ra5 rr.refs.length rc5) (.int .i64 rr.gen) (.int .i64 rr.phase) (.slice oa5 rr.pend.objects.length oc5) (.slice ua5 rr.pend.updates.length uc5) (.bool rr.pend.force) x1) from⟨hQ7,Hu7.out.blk hqk.2 (fun e=>by have e2:w.heap.size=w.heap.size+1:=e;omega)⟩
 have Hv7:=zh ((Hv.out.upd Hu7.out (fun b hb e=>hb.2 e)).weaken (S':=fun b=>w.heap.size≤b) fun b hb=>hb.1);have HB7:=zh (hQb _ hQ7);go_wp2_with fail
 first|refine⟨hC2,?_⟩|skip
 change wpAnyH _ _ _ _ _ _ _ _ (Bg (w.heap.size+1) (.slice sa5 rr.store.length Ek) (.slice ra5 rr.refs.length rc5) (.int .i64 rr.gen) (.int .i64 rr.phase) (.slice oa5 rr.pend.objects.length oc5) (.slice ua5 rr.pend.updates.length uc5) (.bool rr.pend.force) x1);clear hqk hQ7 Hu7 hblk g0 g1 g2 g3 g4 g5 g6 f0 f1 f2 f3 f4 f5 f6;generalize Bg (w.heap.size+1) (.slice sa5 rr.store.length Ek) (.slice ra5 rr.refs.length rc5) (.int .i64 rr.gen) (.int .i64 rr.phase) (.slice oa5 rr.pend.objects.length oc5) (.slice ua5 rr.pend.updates.length uc5) (.bool rr.pend.force) x1=x2 at*;refine tk 13 (.int .i64 re) (fun w hSw=>?_) hC2 ?_
 ·go_simp
 simp only[tkS];refine wpAnyH_done (by kernel_rfl) ?_ _;obtain⟨o0,o1,o2,o3,o4,o5,o6⟩:=bc7 Hb7.out;go_wp2_with fail;refine bodyPost_ret (v:=.tuple #[.agg (c7 rr sa5 Ek ra5 rc5 oa5 oc5 ua5 uc5),.int .i64 re]) (by simp[results,Tryz.results63,go_sem];simp[o0,o1,o2,o3,o4,o5,o6]<;>rfl) rfl ?_;rw[←Hrr.out,←Hre.out];exact⟨_,_,_,_,rfl,Hv7.out,HB7.out⟩
end Go.Proofs.YtgbnlmplkealdaaGreatDoor
