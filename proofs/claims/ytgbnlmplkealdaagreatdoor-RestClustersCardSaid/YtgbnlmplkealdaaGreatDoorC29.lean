
/- ClusF: walk of cluster. -/
import Derived.Test.YtgbnlmplkealdaaGreatDoorC28
set_option linter.all false
set_option maxHeartbeats 16000000
set_option maxRecDepth 100000
namespace Go.Proofs.YtgbnlmplkealdaaGreatDoor
open Go.RowKit
variable [Ghost]
def FJ (L:List Am) (vs:List ByteArray) (y:Nat→Bool) (i:Nat):Int:=if(sa vs i).toList=[] then 0 else KR (Ag L i) (y i)
def CH (L:List Am) (vs:List ByteArray) (y:Nat→Bool):Nat→List Am
 |0=>L
 |k+1=>if(sa vs k).toList=[] then CH L vs y k else(CH L vs y k).set k (MS (Ag L k) (y k))
theorem EV (L:List Am) (vs:List ByteArray) (y:Nat→Bool):∀k,(CH L vs y k).length=L.length
 |0=>rfl
 |k+1=>by unfold CH;split;exact EV L vs y k;rw[List.length_set];exact EV L vs y k
theorem LT (L:List Am) (vs:List ByteArray) (y:Nat→Bool):∀k j,k≤j→j<L.length→Ag (CH L vs y k) j=Ag L j
 |0,_,_,_=>rfl
 |k+1,j,h,hj=>by
  unfold CH;split
  ·exact LT L vs y k j (by omega) hj
  ·rw[DA (by rw[EV];exact hj),if_neg (by omega)];exact LT L vs y k j (by omega) hj
theorem NG (g c M B gf:Nat) (caps:Array Value) (y:Nat→Bool) (Bx:World→Prop) (w:World) (L:List Am) (vs:List ByteArray) (t:ByteArray) (hM:Cw B g c M w L vs t) (h3:L.length=3) (hv3:vs.length=3) (hBM:B≤M)
  (eg:∀args w,(callFunc gf args).run Tryz.prog w=.ok (.enter gf args) w) (hb0:Bx w) (hbb:∀x z,Bx x→Below x.heap.size x z→Bx z) (hbg:∀x z,Bx x→AK (fun b=>b=g) x z→Bx z)
  (hY:∀x k L2,k<3→Bx x→Cw B g c M x L2 vs t→Calls Tryz.prog gf (#[.int .i64 (k:Int)]++caps) x fun e z=>e=.returned (.bool (y k))∧Below x.heap.size x z):
  Calls Tryz.prog 71 #[.pointer (some ⟨M,0,none⟩),.func (.func gf) #[] caps] w fun e w'=>e=.returned (.int .i64 (An (FJ L vs y) 3))∧Below B w w'∧
   (An (FJ L vs y) 3=0→Cw B g c M w' (CH L vs y 3) vs t):=by
 have HYg:=zh hY;have HBb:=zh hbb;have HBg:=zh hbg;have HB00:=zh hb0;clear hY hbb hbg hb0;have H3:=zh h3;have Hv3:=zh hv3;have HM:=zh hM;obtain⟨F0,vv0,hO0,hV0,hF0,hvM0,hvg0,hgM0,hMb0⟩:=hM;have hMs:M<w.heap.size:=lt_of_block hMb0;have hgs:=hO0.block rfl;have hvs:=hV0.strs (by omega);obtain⟨va,vn,vc,HNv,hvv,hv1,hv2,hv4,hv5⟩:=hvs.open;subst hvv;obtain⟨vb,vo,rfl,_,hv6⟩:=hv5 (by have:=HNv.out;omega);have m1:=Aa (j:=1) hMb0 rfl;have HHv:=zh hv6;have Hvg:=zh (show vb≠g from fun e=>hvg0 (by rw[e];rfl));clear h3 hv3 hO0 hV0 hF0 hvM0 hvg0 hgM0 hMb0 hvs hv1 hv2 hv4 hv5 hv6;rw[Hv3.out] at HNv;obtain rfl:vn=3:=HNv.out;clear HNv;simp only[List.getElem_toArray,List.getElem_cons_zero,List.getElem_cons_succ] at m1;have HLs:=zh (fun k (h:An (FJ L vs y) k=0) (hk:k<3) (e:Int) (he:FJ L vs y k=e) (hne:e≠0)=>(BX (f:=FJ L vs y) h (by rw[he];exact hne) hk).trans he)
 go_enter Tryz.func71, Tryz.ntmps71
 go_wp2_with fail;go_loopw [14] (fun a wr=>∃k:Nat,k≤3∧a=.int .i64 k∧Hid (An (FJ L vs y) k=0)∧Hid (Cw B g c M wr (CH L vs y k) vs t∧Below B w wr∧w.heap.size≤wr.heap.size∧(∀i,i<3→wr.cell? ⟨vb,vo+i,none⟩=some (.string (sa vs i)))∧Bx wr)) (fun a _=>3-(intOf a).toNat)
 case atStart=>exact⟨0,by omega,rfl,rfl,HM.out,Below.refl _ _,Nat.le_refl _,fun i hi=>HHv.out i _ hi (Below.refl _ _),HB00.out⟩
 obtain⟨k,hk,rfl,Hs,HI⟩:=hrel;clear m1 HM HHv;by_cases hlt:k<3
 case neg=>
  obtain rfl:k=3:=by omega
  have HI2:=zh (And.intro Hs.out HI.out);go_wp2_with fail;go_ret;exact⟨Af HI2.out.1.symm,HI2.out.2.2.1,fun _=>HI2.out.2.1⟩
 have hvk:=HI.out.2.2.2.1 k hlt;have hi1:=zk k;have hi2:(k:Int)<3:=by omega
 have HnT:=zh (show CH L vs y (k+1)=if(sa vs k).toList=[] then CH L vs y k else(CH L vs y k).set k (MS (Ag L k) (y k)) from rfl);have HnE:=zh (show FJ L vs y k=if(sa vs k).toList=[] then 0 else KR (Ag L k) (y k) from rfl);by_cases he:(sa vs k).toList=[]
 case pos=>
  have q1:((sa vs k).toList==[])=true:=by simpa using he
  rw[if_pos he] at HnT HnE;have Hs2:=zh (show An (FJ L vs y) (k+1)=0 from Ay Hs.out HnE.out);have HI2:=zh (show Cw B g c M wr (CH L vs y (k+1)) vs t∧_ from⟨by rw[HnT.out];exact HI.out.1,HI.out.2⟩);clear he;generalize sa vs k=s at*;go_wp2_with fail;go_roundw
  case rel=>exact⟨k+1,by omega,by go_num,Hs2.out,HI2.out⟩
  case measure=>simp[intOf];omega
 have q1:((sa vs k).toList==[])=false:=by simpa using he
 rw[if_neg he] at HnT HnE;clear he;have HLd:=zh HI.out.1;obtain⟨⟨F,vv,hO,hV,hF,hvM,hvg,hgM,hMb⟩,hBw,hwz,hvc,hbx⟩:=HI.out;have HLl:=zh ((EV L vs y k).trans H3.out);have hrk:=LT L vs y k k (Nat.le_refl _) (by rw[H3.out];exact hlt);obtain⟨Kg,sc0,ra0,rc0,oa0,oc0,ua0,uc0,h5k,hK⟩:=hO.one (by rw[HLl.out];omega) (show k<(CH L vs y k).length by rw[HLl.out];exact hlt);rw[hrk] at h5k hK;rw[HLl.out] at hMb;obtain⟨wo,rfl⟩:∃wo:World,wo=wr:=⟨_,rfl⟩;generalize hL2:CH L vs y k=L2 at*;clear hL2 hrk;have hMw:M<wo.heap.size:=lt_of_block hMb;have hgw:g<wo.heap.size:=(hO.block rfl).2;have hgB:B≤g:=(hO.block rfl).1;obtain⟨Q,hQ,hQ0,hQu⟩:=FD wo;have hQb:=hQ.below;have hQn:=hQ.next
 have HQu:=zh hQu;clear hQu;have c0:=fun x (hx:In Q x)=>show x.cell? ⟨M,0,none⟩=some (.slice (some ⟨g,0,none⟩) 3 c) from Ae (hQb _ hx) (Aa (j:=0) hMb rfl)
 have e0:=fun x (hx:In Q x)=>show x.cell? ⟨g,k*7,none⟩=some (.slice Kg (Ag L k).store.length sc0) from(hK x (hQb _ hx)).1
 have e1:=fun x (hx:In Q x)=>show x.cell? ⟨g,k*7+1,none⟩=some (.slice ra0 (Ag L k).refs.length rc0) from(hK x (hQb _ hx)).2.1
 have e2:=fun x (hx:In Q x)=>show x.cell? ⟨g,k*7+2,none⟩=some (.int .i64 (Ag L k).gen) from(hK x (hQb _ hx)).2.2.1
 have e3:=fun x (hx:In Q x)=>show x.cell? ⟨g,k*7+3,none⟩=some (.int .i64 (Ag L k).phase) from(hK x (hQb _ hx)).2.2.2.1
 have e4:=fun x (hx:In Q x)=>show x.cell? ⟨g,k*7+4,none⟩=some (.slice oa0 (Ag L k).pend.objects.length oc0) from(hK x (hQb _ hx)).2.2.2.2.1
 have e5:=fun x (hx:In Q x)=>show x.cell? ⟨g,k*7+5,none⟩=some (.slice ua0 (Ag L k).pend.updates.length uc0) from(hK x (hQb _ hx)).2.2.2.2.2.1
 have e6:=fun x (hx:In Q x)=>show x.cell? ⟨g,k*7+6,none⟩=some (.bool (Ag L k).pend.force) from(hK x (hQb _ hx)).2.2.2.2.2.2
 have HR:=zh (fun x (hx:In Q x)=>Ti (Ag L k) (y k) _ _ _ _ _ x (h5k.below (hQb _ hx)));simp only[AO] at HR;have HY:=zh (fun x (hx:In Q x)=>HYg.out x k _ hlt (HBb.out _ _ hbx (hQb _ hx)) (HLd.out.below (hQb _ hx)));have HBo:=zh hbx;clear hbx HLd;have HO:=zh hO;have HV:=zh hV;have HF:=zh hF;have HvM:=zh hvM;have Hvgg:=zh hvg;have HgM:=zh hgM;have HMb:=zh hMb;have HBw:=zh hBw;have HKk:=zh hK;have Hvc:=zh hvc;have Hwz:=zh hwz;clear hO hV hF hvM hvg hgM hMb hBw h5k hK HI hvc hwz;generalize hrr:MS (Ag L k) (y k)=rr at*;generalize hfe:KR (Ag L k) (y k)=fe at*;generalize y k=yk at*;generalize sa vs k=s at*;clear hrr hfe;go_upto_region 5 with fail;go_cut [7,8] (fun s7 s8 wx=>∃D9,s7=.pointer (some ⟨D9,0,none⟩)∧s8=.int .i64 fe∧∃y9,y9=wx∧Hid (In Q y9∧wo.heap.size≤D9∧∃AU AX ra1 rc1 oa1 oc1 ua1 uc1,y9.heap[D9]?=some (.cells (c7 rr AU AX ra1 rc1 oa1 oc1 ua1 uc1) 34 (0,0))∧Ax (fun b=>(wo.heap.size≤b∧b<y9.heap.size)∧b≠D9) y9 rr (.slice AU rr.store.length AX) (.slice ra1 rr.refs.length rc1) (.slice oa1 rr.pend.objects.length oc1) (.slice ua1 rr.pend.updates.length uc1)))
 case first=>
  clear hvk;refine rh (In Q) ?_;have hC0:=hQ.drew _ hQ0;generalize wo.drew=x0 at hC0⊢;refine tk 0 (.pointer (some ⟨M,0,none⟩)) (fun w hSw=>?_) hC0 ?_
  ·go_simp
  simp only[tkS];refine tk 1 (.pointer (some ⟨M,0,none⟩)) (fun w hSw=>?_) hC0 ?_
  ·go_simp
  simp only[tkS];refine tk 2 (.pointer (some ⟨M,0,none⟩)) (fun w hSw=>?_) hC0 ?_
  ·go_simp
  simp only[tkS];refine tk 3 (.pointer (some ⟨M,0,none⟩)) (fun w hSw=>?_) hC0 ?_
  ·go_simp
  simp only[tkS];refine tk 4 (.slice (some ⟨g,0,none⟩) 3 c) (fun w hSw=>?_) hC0 ?_
  ·have yy:=c0 _ hSw;go_simp
  simp only[tkS];refine tk 5 (.int .i64 (k:Int)) (fun w hSw=>?_) hC0 ?_
  ·go_simp
  simp only[tkS];refine tk 6 (.pointer (some ⟨g,k*7,none⟩)) (fun w hSw=>?_) hC0 ?_
  ·go_simp
  simp only[tkS];refine tk 7 (.agg (c7 (Ag L k) Kg sc0 ra0 rc0 oa0 oc0 ua0 uc0)) (fun w hSw=>?_) hC0 ?_
  ·have y0:=e0 _ hSw;have y1:=e1 _ hSw;have y2:=e2 _ hSw;have y3:=e3 _ hSw;have y4:=e4 _ hSw;have y5:=e5 _ hSw;have y6:=e6 _ hSw;go_simp
  simp only[tkS];refine tk 8 (.func (.func gf) #[] caps) (fun w hSw=>?_) hC0 ?_
  ·go_simp
  simp only[tkS];refine tk 9 (.int .i64 (k:Int)) (fun w hSw=>?_) hC0 ?_
  ·go_simp
  simp only[tkS];refine al2 10 15 ?_ ?_
  ·skip
   refine Or.inl ?_;go_wp2_with fail;refine(HY.out _ hC0).mono ?_;rintro e x10 ⟨rfl,hb0⟩;have hC1:=hQn _ _ hC0 (hb0.mono (by first|exact Nat.le_refl _|omega));generalize x10=x1 at*;clear hb0;go_simp;refine al2 11 15 ?_ ?_
   ·skip
    refine Or.inl ?_;go_wp2_with fail;refine(HR.out _ hC1).mono ?_;rintro e x11 ⟨sv1,rv1,ov1,uv1,rfl,hv,hb1⟩;have hC2:=hQn _ _ hC1 hb1;obtain⟨AU,AX,rfl⟩:=hv.store.vshape;obtain⟨⟨ra1,rc1⟩,rfl⟩:=hv.refs.shape;obtain⟨oa1,oc1,rfl⟩:=hv.objs.vshape;obtain⟨⟨ua1,uc1⟩,rfl⟩:=hv.upds.shape;have hx0:=(hQb _ hC1).size;have Hv:=zh (hv.lt.weaken (S':=fun b=>wo.heap.size≤b∧b<x11.heap.size) fun b hb=>⟨by have:=hb.1;omega,hb.2⟩);clear hv;simp only[AO];go_simp;clear hb1;generalize x11=x2 at*;refine tk 12 (.tuple #[.agg (c7 rr AU AX ra1 rc1 oa1 oc1 ua1 uc1),.int .i64 fe]) (fun w hSw=>?_) hC2 ?_
    ·go_simp
    simp only[tkS];refine tk 13 (.agg (c7 rr AU AX ra1 rc1 oa1 oc1 ua1 uc1)) (fun w hSw=>?_) hC2 ?_
    ·go_simp
    simp only[tkS];refine tk 14 (.int .i64 fe) (fun w hSw=>?_) hC2 ?_
    ·go_simp
    simp only[tkS];refine al1 15 ?_;refine Or.inl ?_;have Hv2:=zh ((Hv.out.below ((Below.refl _ _).alloc (Nat.le_refl _) (.cells z7 34))).weaken (S':=fun b=>(wo.heap.size≤b∧b<(x2.alloc (.cells z7 34)).heap.size)∧b≠x2.heap.size) fun b hb=>⟨⟨hb.1,by simp;omega⟩,by omega⟩);clear Hv;have hC3:=hQ.alloc _ (.cells z7 34) hC2;go_simp;have hbA:Below x2.heap.size x2 (x2.alloc (.cells z7 34)):=bal;have HDb:=zh (heap_alloc_new x2 (.cells z7 34));have HDge:=zh (hQb _ hC2).size;clear hbA;generalize x2.heap.size=D at*;generalize x2.alloc (.cells z7 34)=x3 at*;refine al1 16 ?_;refine Or.inl ?_;have hblk:=HDb.out;obtain⟨g0,g1,g2,g3,g4,g5,g6⟩:=bc7 hblk;obtain⟨f0,f1,f2,f3,f4,f5,f6⟩:=bf7 hblk;have Hb7:=zh (AZ (v0:=.slice AU rr.store.length AX) (v1:=.slice ra1 rr.refs.length rc1) (v2:=.int .i64 rr.gen) (v3:=.int .i64 rr.phase) (v4:=.slice oa1 rr.pend.objects.length oc1) (v5:=.slice ua1 rr.pend.updates.length uc1) (v6:=.bool rr.pend.force) hblk);have Hu7:=zh (AM D (.slice AU rr.store.length AX) (.slice ra1 rr.refs.length rc1) (.int .i64 rr.gen) (.int .i64 rr.phase) (.slice oa1 rr.pend.objects.length oc1) (.slice ua1 rr.pend.updates.length uc1) (.bool rr.pend.force) x3);have hQ7:=HQu.out _ _ _ hC3 Hu7.out (fun b hb=>by have:=HDge.out;have e2:b=D:=hb;omega);have Hv7:=zh ((Hv2.out.upd Hu7.out (fun b hb e=>hb.2 e)).weaken (S':=fun b=>(wo.heap.size≤b∧b<(Bg D (.slice AU rr.store.length AX) (.slice ra1 rr.refs.length rc1) (.int .i64 rr.gen) (.int .i64 rr.phase) (.slice oa1 rr.pend.objects.length oc1) (.slice ua1 rr.pend.updates.length uc1) (.bool rr.pend.force) x3).heap.size)∧b≠D) fun b hb=>⟨⟨hb.1.1,by have:=hb.1.2;have:=Hu7.out.size;omega⟩,hb.2⟩)
    go_wp2_with fail
    first|refine⟨hQ7,?_⟩|skip
    change wpAnyH _ _ _ _ _ _ _ _ (Bg D (.slice AU rr.store.length AX) (.slice ra1 rr.refs.length rc1) (.int .i64 rr.gen) (.int .i64 rr.phase) (.slice oa1 rr.pend.objects.length oc1) (.slice ua1 rr.pend.updates.length uc1) (.bool rr.pend.force) x3);generalize Bg D (.slice AU rr.store.length AX) (.slice ra1 rr.refs.length rc1) (.int .i64 rr.gen) (.int .i64 rr.phase) (.slice oa1 rr.pend.objects.length oc1) (.slice ua1 rr.pend.updates.length uc1) (.bool rr.pend.force) x3=w7 at*;clear g0 g1 g2 g3 g4 g5 g6 f0 f1 f2 f3 f4 f5 f6 hblk Hu7;refine al1 17 ?_;refine Or.inl ?_;go_wp2_with fail
    first|refine⟨hQ7,by kernel_rfl,?_⟩|refine⟨by kernel_rfl,?_⟩
    have HEnd:=zh (show In Q w7∧wo.heap.size≤D∧∃AU AX ra1 rc1 oa1 oc1 ua1 uc1,w7.heap[D]?=some (.cells (c7 rr AU AX ra1 rc1 oa1 oc1 ua1 uc1) 34 (0,0))∧Ax (fun b=>(wo.heap.size≤b∧b<w7.heap.size)∧b≠D) w7 rr (.slice AU rr.store.length AX) (.slice ra1 rr.refs.length rc1) (.slice oa1 rr.pend.objects.length oc1) (.slice ua1 rr.pend.updates.length uc1) from⟨hQ7,HDge.out,AU,AX,ra1,rc1,oa1,oc1,ua1,uc1,Hb7.out,Hv7.out⟩);go_wp2_with fail;go_meet;exact⟨D,rfl,rfl,w7,rfl,HEnd⟩
   refine Or.inl ?_;have hC2:=hQ.alloc _ (.cells z7 34) hC1;go_simp;have hbA:Below x1.heap.size x1 (x1.alloc (.cells z7 34)):=bal;have HDb:=zh (heap_alloc_new x1 (.cells z7 34));have HDge:=zh (hQb _ hC1).size;clear hbA;generalize x1.heap.size=D at*;generalize x1.alloc (.cells z7 34)=x2 at*;refine al1 11 ?_;refine Or.inl ?_;go_wp2_with fail;refine(HR.out _ hC2).mono ?_;rintro e x12 ⟨sv1,rv1,ov1,uv1,rfl,hv,hb1⟩;have hC3:=hQn _ _ hC2 hb1;obtain⟨AU,AX,rfl⟩:=hv.store.vshape;obtain⟨⟨ra1,rc1⟩,rfl⟩:=hv.refs.shape;obtain⟨oa1,oc1,rfl⟩:=hv.objs.vshape;obtain⟨⟨ua1,uc1⟩,rfl⟩:=hv.upds.shape;have HDx:=zh (show D<x2.heap.size from lt_of_block HDb.out);replace HDb:=zh (Ab HDb.out hb1);have hx0:=(hQb _ hC2).size;have Hv2:=zh (hv.lt.weaken (S':=fun b=>(wo.heap.size≤b∧b<x12.heap.size)∧b≠D) fun b hb=>⟨⟨by have:=hb.1;omega,hb.2⟩,fun e=>by have:=HDx.out;have:=hb.1;omega⟩);clear hv;simp only[AO];go_simp;clear hb1;generalize x12=x3 at*;refine tk 12 (.tuple #[.agg (c7 rr AU AX ra1 rc1 oa1 oc1 ua1 uc1),.int .i64 fe]) (fun w hSw=>?_) hC3 ?_
   ·go_simp
   simp only[tkS];refine tk 13 (.agg (c7 rr AU AX ra1 rc1 oa1 oc1 ua1 uc1)) (fun w hSw=>?_) hC3 ?_
   ·go_simp
   simp only[tkS];refine tk 14 (.int .i64 fe) (fun w hSw=>?_) hC3 ?_
   ·go_simp
   simp only[tkS];refine al1 16 ?_;refine Or.inl ?_;have hblk:=HDb.out;obtain⟨g0,g1,g2,g3,g4,g5,g6⟩:=bc7 hblk;obtain⟨f0,f1,f2,f3,f4,f5,f6⟩:=bf7 hblk;have Hb7:=zh (AZ (v0:=.slice AU rr.store.length AX) (v1:=.slice ra1 rr.refs.length rc1) (v2:=.int .i64 rr.gen) (v3:=.int .i64 rr.phase) (v4:=.slice oa1 rr.pend.objects.length oc1) (v5:=.slice ua1 rr.pend.updates.length uc1) (v6:=.bool rr.pend.force) hblk);have Hu7:=zh (AM D (.slice AU rr.store.length AX) (.slice ra1 rr.refs.length rc1) (.int .i64 rr.gen) (.int .i64 rr.phase) (.slice oa1 rr.pend.objects.length oc1) (.slice ua1 rr.pend.updates.length uc1) (.bool rr.pend.force) x3);have hQ7:=HQu.out _ _ _ hC3 Hu7.out (fun b hb=>by have:=HDge.out;have e2:b=D:=hb;omega);have Hv7:=zh ((Hv2.out.upd Hu7.out (fun b hb e=>hb.2 e)).weaken (S':=fun b=>(wo.heap.size≤b∧b<(Bg D (.slice AU rr.store.length AX) (.slice ra1 rr.refs.length rc1) (.int .i64 rr.gen) (.int .i64 rr.phase) (.slice oa1 rr.pend.objects.length oc1) (.slice ua1 rr.pend.updates.length uc1) (.bool rr.pend.force) x3).heap.size)∧b≠D) fun b hb=>⟨⟨hb.1.1,by have:=hb.1.2;have:=Hu7.out.size;omega⟩,hb.2⟩);go_wp2_with fail
   first|refine⟨hQ7,?_⟩|skip
   change wpAnyH _ _ _ _ _ _ _ _ (Bg D (.slice AU rr.store.length AX) (.slice ra1 rr.refs.length rc1) (.int .i64 rr.gen) (.int .i64 rr.phase) (.slice oa1 rr.pend.objects.length oc1) (.slice ua1 rr.pend.updates.length uc1) (.bool rr.pend.force) x3);generalize Bg D (.slice AU rr.store.length AX) (.slice ra1 rr.refs.length rc1) (.int .i64 rr.gen) (.int .i64 rr.phase) (.slice oa1 rr.pend.objects.length oc1) (.slice ua1 rr.pend.updates.length uc1) (.bool rr.pend.force) x3=w7 at*;clear g0 g1 g2 g3 g4 g5 g6 f0 f1 f2 f3 f4 f5 f6 hblk Hu7;refine al1 17 ?_;refine Or.inl ?_;go_wp2_with fail
   first|refine⟨hQ7,by kernel_rfl,?_⟩|refine⟨by kernel_rfl,?_⟩
   have HEnd:=zh (show In Q w7∧wo.heap.size≤D∧∃AU AX ra1 rc1 oa1 oc1 ua1 uc1,w7.heap[D]?=some (.cells (c7 rr AU AX ra1 rc1 oa1 oc1 ua1 uc1) 34 (0,0))∧Ax (fun b=>(wo.heap.size≤b∧b<w7.heap.size)∧b≠D) w7 rr (.slice AU rr.store.length AX) (.slice ra1 rr.refs.length rc1) (.slice oa1 rr.pend.objects.length oc1) (.slice ua1 rr.pend.updates.length uc1) from⟨hQ7,HDge.out,AU,AX,ra1,rc1,oa1,oc1,ua1,uc1,Hb7.out,Hv7.out⟩);go_wp2_with fail;go_meet;exact⟨D,rfl,rfl,w7,rfl,HEnd⟩
  refine Or.inl ?_;have hC1:=hQ.alloc _ (.cells z7 34) hC0;go_simp;have hbA:Below x0.heap.size x0 (x0.alloc (.cells z7 34)):=bal;have HDb:=zh (heap_alloc_new x0 (.cells z7 34));have HDge:=zh (hQb _ hC0).size;clear hbA;generalize x0.heap.size=D at*;generalize x0.alloc (.cells z7 34)=x1 at*;refine al1 10 ?_;refine Or.inl ?_;go_wp2_with fail;refine(HY.out _ hC1).mono ?_;rintro e x11 ⟨rfl,hb0⟩;have hC2:=hQn _ _ hC1 (hb0.mono (by first|exact Nat.le_refl _|omega));replace HDb:=zh (Ab HDb.out hb0);generalize x11=x2 at*;clear hb0;go_simp;refine al1 11 ?_;refine Or.inl ?_;go_wp2_with fail;refine(HR.out _ hC2).mono ?_;rintro e x12 ⟨sv1,rv1,ov1,uv1,rfl,hv,hb1⟩;have hC3:=hQn _ _ hC2 hb1;obtain⟨AU,AX,rfl⟩:=hv.store.vshape;obtain⟨⟨ra1,rc1⟩,rfl⟩:=hv.refs.shape;obtain⟨oa1,oc1,rfl⟩:=hv.objs.vshape;obtain⟨⟨ua1,uc1⟩,rfl⟩:=hv.upds.shape;have HDx:=zh (show D<x2.heap.size from lt_of_block HDb.out);replace HDb:=zh (Ab HDb.out hb1);have hx0:=(hQb _ hC2).size;have Hv2:=zh (hv.lt.weaken (S':=fun b=>(wo.heap.size≤b∧b<x12.heap.size)∧b≠D) fun b hb=>⟨⟨by have:=hb.1;omega,hb.2⟩,fun e=>by have:=HDx.out;have:=hb.1;omega⟩);clear hv;simp only[AO];go_simp;clear hb1;generalize x12=x3 at*;refine tk 12 (.tuple #[.agg (c7 rr AU AX ra1 rc1 oa1 oc1 ua1 uc1),.int .i64 fe]) (fun w hSw=>?_) hC3 ?_
  ·go_simp
  simp only[tkS];refine tk 13 (.agg (c7 rr AU AX ra1 rc1 oa1 oc1 ua1 uc1)) (fun w hSw=>?_) hC3 ?_
  ·go_simp
  simp only[tkS];refine tk 14 (.int .i64 fe) (fun w hSw=>?_) hC3 ?_
  ·go_simp
  simp only[tkS];refine al1 16 ?_;refine Or.inl ?_;have hblk:=HDb.out;obtain⟨g0,g1,g2,g3,g4,g5,g6⟩:=bc7 hblk;obtain⟨f0,f1,f2,f3,f4,f5,f6⟩:=bf7 hblk;have Hb7:=zh (AZ (v0:=.slice AU rr.store.length AX) (v1:=.slice ra1 rr.refs.length rc1) (v2:=.int .i64 rr.gen) (v3:=.int .i64 rr.phase) (v4:=.slice oa1 rr.pend.objects.length oc1) (v5:=.slice ua1 rr.pend.updates.length uc1) (v6:=.bool rr.pend.force) hblk);have Hu7:=zh (AM D (.slice AU rr.store.length AX) (.slice ra1 rr.refs.length rc1) (.int .i64 rr.gen) (.int .i64 rr.phase) (.slice oa1 rr.pend.objects.length oc1) (.slice ua1 rr.pend.updates.length uc1) (.bool rr.pend.force) x3);have hQ7:=HQu.out _ _ _ hC3 Hu7.out (fun b hb=>by have:=HDge.out;have e2:b=D:=hb;omega);have Hv7:=zh ((Hv2.out.upd Hu7.out (fun b hb e=>hb.2 e)).weaken (S':=fun b=>(wo.heap.size≤b∧b<(Bg D (.slice AU rr.store.length AX) (.slice ra1 rr.refs.length rc1) (.int .i64 rr.gen) (.int .i64 rr.phase) (.slice oa1 rr.pend.objects.length oc1) (.slice ua1 rr.pend.updates.length uc1) (.bool rr.pend.force) x3).heap.size)∧b≠D) fun b hb=>⟨⟨hb.1.1,by have:=hb.1.2;have:=Hu7.out.size;omega⟩,hb.2⟩);go_wp2_with fail
  first|refine⟨hQ7,?_⟩|skip
  change wpAnyH _ _ _ _ _ _ _ _ (Bg D (.slice AU rr.store.length AX) (.slice ra1 rr.refs.length rc1) (.int .i64 rr.gen) (.int .i64 rr.phase) (.slice oa1 rr.pend.objects.length oc1) (.slice ua1 rr.pend.updates.length uc1) (.bool rr.pend.force) x3);generalize Bg D (.slice AU rr.store.length AX) (.slice ra1 rr.refs.length rc1) (.int .i64 rr.gen) (.int .i64 rr.phase) (.slice oa1 rr.pend.objects.length oc1) (.slice ua1 rr.pend.updates.length uc1) (.bool rr.pend.force) x3=w7 at*;clear g0 g1 g2 g3 g4 g5 g6 f0 f1 f2 f3 f4 f5 f6 hblk Hu7;refine al1 17 ?_;refine Or.inl ?_;go_wp2_with fail
  first|refine⟨hQ7,by kernel_rfl,?_⟩|refine⟨by kernel_rfl,?_⟩
  have HEnd:=zh (show In Q w7∧wo.heap.size≤D∧∃AU AX ra1 rc1 oa1 oc1 ua1 uc1,w7.heap[D]?=some (.cells (c7 rr AU AX ra1 rc1 oa1 oc1 ua1 uc1) 34 (0,0))∧Ax (fun b=>(wo.heap.size≤b∧b<w7.heap.size)∧b≠D) w7 rr (.slice AU rr.store.length AX) (.slice ra1 rr.refs.length rc1) (.slice oa1 rr.pend.objects.length oc1) (.slice ua1 rr.pend.updates.length uc1) from⟨hQ7,HDge.out,AU,AX,ra1,rc1,oa1,oc1,ua1,uc1,Hb7.out,Hv7.out⟩);go_wp2_with fail;go_meet;exact⟨D,rfl,rfl,w7,rfl,HEnd⟩
 obtain⟨D9,rfl,rfl,y9,rfl,HK9⟩:=hcut;obtain⟨hQ9,hD9,AU,AX,ra1,rc1,oa1,oc1,ua1,uc1,hb9,hv9⟩:=HK9.out;have HDb:=zh hb9;have Hv7:=zh hv9;clear HK9 hb9 hv9 HR HY HQu c0 e0 e1 e2 e3 e4 e5 e6 hvk q1;by_cases hz:fe=0
 case neg=>
  have HE2:=zh (HLs.out k Hs.out hlt fe HnE.out hz);have Hz:=zh hz;have hq2:(fe !=0)=true:=by simpa using hz
  clear hz;have HB2:=zh (HBw.out.trans ((hQb _ hQ9).mono (show B≤wo.heap.size by omega)));go_wp2_with fail;go_ret;exact⟨Af HE2.out.symm,HB2.out,fun h=>absurd (HE2.out.symm.trans h) Hz.out⟩
 subst hz;have Hs2:=zh (show An (FJ L vs y) (k+1)=0 from Ay Hs.out HnE.out);go_upto_region 8 with fail;obtain⟨T,hT,hT1,hTall⟩:=Av y9;have hTQ:∀x,In T x→In Q x:=fun x hx=>hQn _ _ hQ9 (hT.below _ hx)
 have HVT:=zh (fun x (hx:In T x)=>show q7 x D9 rr AU AX ra1 rc1 oa1 oc1 ua1 uc1 from⟨Ae (hT.below _ hx) (Aa (j:=0) HDb.out rfl),Ae (hT.below _ hx) (Aa (j:=1) HDb.out rfl),Ae (hT.below _ hx) (Aa (j:=2) HDb.out rfl),Ae (hT.below _ hx) (Aa (j:=3) HDb.out rfl),Ae (hT.below _ hx) (Aa (j:=4) HDb.out rfl),Ae (hT.below _ hx) (Aa (j:=5) HDb.out rfl),Ae (hT.below _ hx) (Aa (j:=6) HDb.out rfl)⟩);have hM8:=fun x (hx:In T x)=>show x.cell? ⟨M,0,none⟩=some (.slice (some ⟨g,0,none⟩) 3 c) from Ae (hQb _ (hTQ x hx)) (Aa (j:=0) HMb.out rfl)
 refine rh (In (fun x:World=>x.cell? ⟨M,0,none⟩=some (.slice (some ⟨g,0,none⟩) 3 c)∧q7 x D9 rr AU AX ra1 rc1 oa1 oc1 ua1 uc1)) ?_;have hT0:=hT.drew _ hT1;have hy3:=(hT.below _ hT0).size;generalize y9.drew=y0 at hT0 hy3⊢;have hS8:In (fun x:World=>x.cell? ⟨M,0,none⟩=some (.slice (some ⟨g,0,none⟩) 3 c)∧q7 x D9 rr AU AX ra1 rc1 oa1 oc1 ua1 uc1) y0:=show(fun x:World=>x.cell? ⟨M,0,none⟩=some (.slice (some ⟨g,0,none⟩) 3 c)∧q7 x D9 rr AU AX ra1 rc1 oa1 oc1 ua1 uc1) y0 from⟨hM8 _ hT0,HVT.out _ hT0⟩
 refine tk 0 (.pointer (some ⟨M,0,none⟩)) (fun w hSw=>?_) hS8 ?_
 ·go_simp
 simp only[tkS];refine tk 1 (.pointer (some ⟨M,0,none⟩)) (fun w hSw=>?_) hS8 ?_
 ·go_simp
 simp only[tkS];refine tk 2 (.pointer (some ⟨M,0,none⟩)) (fun w hSw=>?_) hS8 ?_
 ·go_simp
 simp only[tkS];refine tk 3 (.pointer (some ⟨M,0,none⟩)) (fun w hSw=>?_) hS8 ?_
 ·go_simp
 simp only[tkS];refine tk 4 (.slice (some ⟨g,0,none⟩) 3 c) (fun w hSw=>?_) hS8 ?_
 ·have yy:=(show(fun x:World=>x.cell? ⟨M,0,none⟩=some (.slice (some ⟨g,0,none⟩) 3 c)∧q7 x D9 rr AU AX ra1 rc1 oa1 oc1 ua1 uc1) w from hSw).1;go_simp
 simp only[tkS];refine tk 5 (.int .i64 (k:Int)) (fun w hSw=>?_) hS8 ?_
 ·go_simp
 simp only[tkS];refine tk 6 (.agg (c7 rr AU AX ra1 rc1 oa1 oc1 ua1 uc1)) (fun w hSw=>?_) hS8 ?_
 ·obtain⟨_,u0,u1,u2,u3,u4,u5,u6⟩:=(show(fun x:World=>x.cell? ⟨M,0,none⟩=some (.slice (some ⟨g,0,none⟩) 3 c)∧q7 x D9 rr AU AX ra1 rc1 oa1 oc1 ua1 uc1) w from hSw);go_simp
 simp only[tkS];refine tk 7 (.pointer (some ⟨g,k*7,none⟩)) (fun w hSw=>?_) hS8 ?_
 ·go_simp
 simp only[tkS];refine al1 8 ?_;refine Or.inl ?_;have hyb:=hQb _ (hTQ _ hT0);obtain⟨z0,z1,z2,z3,z4,z5,z6⟩:=HKk.out _ hyb;have hOy:=HO.out.below hyb;have f0:=hOy.free (k*7);have f1:=hOy.free (k*7+1);have f2:=hOy.free (k*7+2);have f3:=hOy.free (k*7+3);have f4:=hOy.free (k*7+4);have f5:=hOy.free (k*7+5);have f6:=hOy.free (k*7+6);have hset:=hOy.set (i:=k) (r:=rr) (x:=⟨.slice AU rr.store.length AX,.slice ra1 rr.refs.length rc1,.slice oa1 rr.pend.objects.length oc1,.slice ua1 rr.pend.updates.length uc1⟩) (show k<L2.length by rw[HLl.out];exact hlt) (S2:=fun b=>((wo.heap.size≤b∧b<y9.heap.size)∧b≠D9)∧b<y0.heap.size) (Ax.lt (Hv7.out.below (hT.below _ hT0))) (fun b hb=>⟨hb.2,fun e=>by have:=hb.1.1.1;omega⟩);have hS7:=(show(fun x:World=>x.cell? ⟨M,0,none⟩=some (.slice (some ⟨g,0,none⟩) 3 c)∧q7 x D9 rr AU AX ra1 rc1 oa1 oc1 ua1 uc1) y0 from hS8);have HS9:=zh (show In (fun x:World=>x.cell? ⟨M,0,none⟩=some (.slice (some ⟨g,0,none⟩) 3 c)∧q7 x D9 rr AU AX ra1 rc1 oa1 oc1 ua1 uc1) (y0.setCells g (k*7) (Ba rr ⟨.slice AU rr.store.length AX,.slice ra1 rr.refs.length rc1,.slice oa1 rr.pend.objects.length oc1,.slice ua1 rr.pend.updates.length uc1⟩)) from show(fun x:World=>x.cell? ⟨M,0,none⟩=some (.slice (some ⟨g,0,none⟩) 3 c)∧q7 x D9 rr AU AX ra1 rc1 oa1 oc1 ua1 uc1) (y0.setCells g (k*7) (Ba rr ⟨.slice AU rr.store.length AX,.slice ra1 rr.refs.length rc1,.slice oa1 rr.pend.objects.length oc1,.slice ua1 rr.pend.updates.length uc1⟩)) from⟨hset.2.cell hS7.1 (fun e=>HgM.out e.symm),hset.2.cell hS7.2.1 (fun e=>by have e2:D9=g:=e;omega),hset.2.cell hS7.2.2.1 (fun e=>by have e2:D9=g:=e;omega),hset.2.cell hS7.2.2.2.1 (fun e=>by have e2:D9=g:=e;omega),hset.2.cell hS7.2.2.2.2.1 (fun e=>by have e2:D9=g:=e;omega),hset.2.cell hS7.2.2.2.2.2.1 (fun e=>by have e2:D9=g:=e;omega),hset.2.cell hS7.2.2.2.2.2.2.1 (fun e=>by have e2:D9=g:=e;omega),hset.2.cell hS7.2.2.2.2.2.2.2 (fun e=>by have e2:D9=g:=e;omega)⟩)
 have Hset:=zh hset;have HMy:=zh ((hyb.block _ hMw).trans HMb.out);have HVy:=zh (HV.out.below hyb);have HBy:=zh (HBw.out.trans (hyb.mono (show B≤wo.heap.size by omega)));have hys:=hyb.size;have HS8:=zh hS8;have Hvy:=zh (fun i (hi:i<3)=>Ae hyb (Hvc.out i hi));have Hby:=zh (HBb.out _ _ HBo.out hyb);clear hset hOy hyb hM8 hS8 hS7 hT0;go_wp2_with fail
 first|refine⟨by kernel_rfl,?_⟩|refine⟨HS9.out,by kernel_rfl,?_⟩
 first|change Exit.then _ _ _ _ (y0.setCells g (k*7) (Ba rr ⟨.slice AU rr.store.length AX,.slice ra1 rr.refs.length rc1,.slice oa1 rr.pend.objects.length oc1,.slice ua1 rr.pend.updates.length uc1⟩))|change Exit.inBlock _ _ _ _ (y0.setCells g (k*7) (Ba rr ⟨.slice AU rr.store.length AX,.slice ra1 rr.refs.length rc1,.slice oa1 rr.pend.objects.length oc1,.slice ua1 rr.pend.updates.length uc1⟩))
 have hO9:=Hset.out.1;have hu:=Hset.out.2;have hM9:=hu.blk HMy.out (fun e=>HgM.out e.symm);have hV9:=HVy.out.upd hu (fun q hq e=>Hvgg.out (by rw[hq,e]));have hB9:=HBy.out.trans (hu.below (B:=B) (by omega) (fun b hb=>by have e2:b=g:=hb;omega));have hz9:=hu.size;have hc9:=fun i (hi:i<3)=>hu.cell (Hvy.out i hi) (fun e=>Hvg.out e)
 have hbx9:=HBg.out _ _ Hby.out hu;clear Hset HMy HVy HBy hu HS8 Hvy z0 z1 z2 z3 z4 z5 z6 f0 f1 f2 f3 f4 f5 f6;generalize y0.setCells g (k*7) (Ba rr ⟨.slice AU rr.store.length AX,.slice ra1 rr.refs.length rc1,.slice oa1 rr.pend.objects.length oc1,.slice ua1 rr.pend.updates.length uc1⟩)=w9 at*;have hFF:∀b,(F b∨(((wo.heap.size≤b∧b<y9.heap.size)∧b≠D9)∧b<y0.heap.size))→B≤b∧b≠M∧vv.ownBlock≠some b:=fun b hb=>by
  rcases hb with h|h
  ·exact HF.out b h
  ·have h1:=h.1.1.1
   exact⟨by omega,by omega,fun e=>by have:=(HV.out.1.lt _ e).2;omega⟩
 have HEnd:=zh (show Cw B g c M w9 (CH L vs y (k+1)) vs t∧Below B w w9∧w.heap.size≤w9.heap.size∧(∀i,i<3→w9.cell? ⟨vb,vo+i,none⟩=some (.string (sa vs i)))∧Bx w9 from by
  rw[HnT.out];refine⟨⟨_,vv,?_,hV9,hFF,HvM.out,Hvgg.out,HgM.out,?_⟩,hB9,by have:=Hwz.out;omega,hc9,hbx9⟩
  ·rw[List.length_set];exact hO9
  ·rw[List.length_set,HLl.out];exact hM9)
 clear hO9 hV9 hB9 hM9 hFF HO HV HF HMb HKk HBw hc9 hbx9;go_wp2_with fail;go_roundw
 case rel=>exact⟨k+1,by omega,by go_num,Hs2.out,HEnd.out⟩
 case measure=>simp[intOf];omega
theorem Qs (g c M B:Nat) (w:World) (L:List Am) (vs:List ByteArray) (t:ByteArray) (late:Int) (f:Value) (hM:Cw B g c M w L vs t) (h3:L.length=3) (hv3:vs.length=3) (hl:0≤late∧late≤7) (hBM:B≤M) (hf:Uj M late w f):
  Calls Tryz.prog 71 #[.pointer (some ⟨M,0,none⟩),f] w fun e w'=>e=.returned (.int .i64 (An (FJ L vs (fun i=>((sa vs i).toList==t.toList) && !DU late i)) 3))∧Below B w w'∧
   (An (FJ L vs (fun i=>((sa vs i).toList==t.toList) && !DU late i)) 3=0→Cw B g c M w' (CH L vs (fun i=>((sa vs i).toList==t.toList) && !DU late i) 3) vs t):=by
 obtain⟨p,q,rfl,hp,hq⟩:=hf;have hpg:p≠g∧q≠g:=by
  obtain⟨F,vv,hO,_⟩:=hM;obtain⟨_,_,h2,_⟩:=hO;exact⟨fun e=>Gv h2 hp (by decide) (by rw[e];rfl),fun e=>Gv h2 hq (by decide) (by rw[e];rfl)⟩
 refine NG g c M B 100 #[.pointer (some ⟨p,0,none⟩),.pointer (some ⟨q,0,none⟩)] (fun i=>((sa vs i).toList==t.toList) && !DU late i) (fun x=>x.heap[p]?=some (.cells #[.pointer (some ⟨M,0,none⟩)] 112 (0,0))∧x.heap[q]?=some (.cells #[.int .i64 late] 3 (0,0))) w L vs t hM h3 hv3 hBM (fun _ _=>rfl) ⟨hp,hq⟩ (fun x z h hb=>⟨Ab h.1 hb,Ab h.2 hb⟩) (fun x z h hu=>⟨hu.blk h.1 hpg.1,hu.blk h.2 hpg.2⟩) (fun x k L2 hk hx hL=>?_);obtain⟨F,vv,hO,hV,_,_,_,_,hMb⟩:=hL;exact Rs M k p q vv vs t late _ x (Aa (j:=0) hx.1 rfl) (Aa (j:=0) hx.2 rfl) (Aa (j:=1) hMb rfl) (Aa (j:=2) hMb rfl) (hV.strs (by omega)) (by omega) hl (by omega)
theorem RD (g c M B:Nat) (w:World) (L:List Am) (vs:List ByteArray) (t:ByteArray) (hM:Cw B g c M w L vs t) (h3:L.length=3) (hv3:vs.length=3) (hBM:B≤M):
  Calls Tryz.prog 71 #[.pointer (some ⟨M,0,none⟩),.func (.func 70) #[] #[]] w fun e w'=>e=.returned (.int .i64 (An (FJ L vs (fun _=>false)) 3))∧Below B w w'∧
   (An (FJ L vs (fun _=>false)) 3=0→Cw B g c M w' (CH L vs (fun _=>false) 3) vs t):=
 NG g c M B 70 #[] (fun _=>false) (fun _=>True) w L vs t hM h3 hv3 hBM (fun _ _=>rfl) trivial (fun _ _ _ _=>trivial) (fun _ _ _ _=>trivial) (fun x k _ _ _ _=>Rn k x)
end Go.Proofs.YtgbnlmplkealdaaGreatDoor
namespace Go.Proofs.YtgbnlmplkealdaaGreatDoor
variable [Ghost]
theorem QH {r:Am} {p:BM} (h:Cx r) (h0:r.phase=0) (hp:As p=0):Kc r p=0:=by
 unfold Kc;rw[NM (Bm.2 h) h0,if_neg (by decide)];exact hp
theorem JI {l:List Am} {p:BM} {up:Int} (hc:BC l) (hp:As p=0) {i:Nat} (hi:i<3):CM l p up i=Cb l p up i:=by
 unfold CM Cb;by_cases h:DU up i=true∧(Ag l i).phase=0
 ·rw[if_pos h,if_pos h]
  have ha:=apart (QH (hc.each i hi) h.2 hp);rw[ha.a];exact ha.vot.2.2
 ·rw[if_neg h,if_neg h]
theorem Zk {l:List Am} {p:BM} {up:Int} (hc:BC l) (hp:As p=0) {i:Nat} (hi:i<3):CY l p up i=if DU up i=true∧(Ag l i).phase=0 then Ch (Cn (Ag l i) p) else Ag l i:=by
 unfold CY;by_cases h:DU up i=true∧(Ag l i).phase=0
 ·rw[if_pos h,if_pos h]
  have ha:=apart (QH (hc.each i hi) h.2 hp);rw[ha.a];exact ha.vot.2.1
 ·rw[if_neg h,if_neg h]
theorem KD {l:List Am} {p:BM} {up:Int} (hc:BC l) (hp:As p=0):Ca l p up 3=Cr l p up:=by
 show(([]++[CM l p up 0])++[CM l p up 1])++[CM l p up 2]=Cr l p up
 rw[JI hc hp (by decide),JI hc hp (by decide),JI hc hp (by decide)];rfl
theorem Xa (l:List Am) (p:BM) (up late:Int):Ie (Cr l p up) (CS (Cr l p up)).1 (CS (Cr l p up)).2 late 3=DG l p up late 3:=by
 have e0:sa (Cr l p up) 0=Cb l p up 0:=rfl;have e1:sa (Cr l p up) 1=Cb l p up 1:=rfl;have e2:sa (Cr l p up) 2=Cb l p up 2:=rfl;simp only[Ie,DG,Bo,OK,e0,e1,e2,Bool.and_assoc]
def Ex (l:List Am) (p:BM) (up:Int) (y:Nat→Bool) (i:Nat):Am:=if CM l p up i=ByteArray.empty then CY l p up i else MS (CY l p up i) (y i)
def Gm (l:List Am) (p:BM) (up:Int) (y:Nat→Bool) (i:Nat):Int:=if CM l p up i=ByteArray.empty then 0 else KR (CY l p up i) (y i)
theorem Qp {l:List Am} {p:BM} {up late:Int} {y:Nat→Bool} (hc:BC l) (hp:As p=0) {i:Nat} (hi:i<3) (hy:y i=(Cp l p up late && Bo l p up late i)):
  Gm l p up y i=Dg l p up late i∧(Gm l p up y i=0→Ex l p up y i=BA l p up late i):=by
 by_cases h:DU up i=true∧(Ag l i).phase=0
 ·have hz:=QH (hc.each i hi) h.2 hp
  have ha:=apart hz;have hs:=aM hz;have h1:CM l p up i=CC (Ag l i) p:=by rw[JI hc hp hi];unfold Cb;rw[if_pos h]
  have h2:CY l p up i=Ch (Cn (Ag l i) p):=by rw[Zk hc hp hi,if_pos h]
  have h3:Gm l p up y i=KR (Ch (Cn (Ag l i) p)) (y i):=by unfold Gm;rw[h1,if_neg ha.same,h2]
  have h4:Ex l p up y i=MS (Ch (Cn (Ag l i) p)) (y i):=by unfold Ex;rw[h1,if_neg ha.same,h2]
  rw[h3,h4];cases hb:(Cp l p up late && Bo l p up late i)
  ·have hn:¬(Cp l p up late=true∧Bo l p up late i=true):=by rw[←Bool.and_eq_true,hb];simp
   rw[hy,hb];refine⟨?_,fun _=>?_⟩
   ·rw[ha.fin.1];unfold Dg;rw[if_neg (fun h=>hn ⟨h.1,h.2.1⟩)]
   ·rw[ha.fin.2];unfold BA;rw[if_neg hn]
  ·have hb2:=hb
   rw[Bool.and_eq_true] at hb2;have hv:=(Ee hb2.2).vote;rw[hy,hb];rw[hs.1,if_neg (by simpa using hv)];refine⟨?_,fun h0=>?_⟩
   ·unfold Dg
    by_cases hg:(Ag l i).gen=999
    ·rw[if_pos hg,if_pos ⟨hb2.1,hb2.2,hg⟩]
    ·rw[if_neg hg,if_neg (fun h=>hg h.2.2)]
   ·have hg:(Ag l i).gen≠999:=fun hg=>by rw[if_pos hg] at h0;cases h0
    rw[(hs.2 hv hg).1];unfold BA;rw[if_pos hb2]
 ·have h1:CM l p up i=ByteArray.empty:=by unfold CM;rw[if_neg h]
  have h2:CY l p up i=Ag l i:=by unfold CY;rw[if_neg h]
  have h3:Gm l p up y i=0:=by unfold Gm;rw[if_pos h1]
  have h4:Ex l p up y i=Ag l i:=by unfold Ex;rw[if_pos h1,h2]
  have hn:¬(Bo l p up late i=true):=fun hk=>h ⟨(Ee hk).isUp,(Ee hk).idle⟩
  rw[h3,h4];refine⟨?_,fun _=>?_⟩
  ·unfold Dg;rw[if_neg (fun h=>hn h.2.1)]
  ·unfold BA;rw[if_neg (fun h=>hn h.2)]
variable [Ghost]
theorem PF {l:List Am} {p:BM} {up late:Int} {y:Nat→Bool} (hc:BC l) (hp:As p=0) (hy:∀i,i<3→y i=(Cp l p up late && Bo l p up late i))
  {E:Nat→Int} {T:List Am} (hE:∀i,i<3→E i=Gm l p up y i) (hT:T=[Ex l p up y 0,Ex l p up y 1,Ex l p up y 2]):
  An E 3=An (Dg l p up late) 3∧(An E 3=0→T=[BA l p up late 0,BA l p up late 1,BA l p up late 2]):=by
 have hf:∀i,i<3→E i=Dg l p up late i:=fun i hi=>(hE i hi).trans (Qp hc hp hi (hy i hi)).1
 have hs:∀k,k≤3→An E k=An (Dg l p up late) k:=by
  intro k
  induction k with
  |zero=>intro _;rfl
  |succ k ih=>
   intro hk;unfold An;rw[ih (by omega),hf k (by omega)]
 refine⟨hs 3 (Nat.le_refl _),fun h0=>?_⟩;have hz:∀i,i<3→Gm l p up y i=0:=fun i hi=>by rw[←hE i hi];exact Bn h0 i hi
 rw[hT,(Qp hc hp (by omega) (hy 0 (by omega))).2 (hz 0 (by omega)),(Qp hc hp (by omega) (hy 1 (by omega))).2 (hz 1 (by omega)),(Qp hc hp (by omega) (hy 2 (by omega))).2 (hz 2 (by omega))]
end Go.Proofs.YtgbnlmplkealdaaGreatDoor
