
/- ClusB: walk of cluster. -/
import Derived.Test.YtgbnlmplkealdaaGreatDoorC27
set_option linter.all false
set_option maxHeartbeats 8000000
set_option maxRecDepth 100000
namespace Go.Proofs.YtgbnlmplkealdaaGreatDoor
open Go.RowKit
variable [Ghost]
def CY (l:List Am) (p:BM) (up:Int) (i:Nat):Am:=if DU up i=true∧(Ag l i).phase=0 then Ps (Jt (Ag l i) p) else Ag l i
def CM (l:List Am) (p:BM) (up:Int) (i:Nat):ByteArray:=if DU up i=true∧(Ag l i).phase=0 then MW (Jt (Ag l i) p) else ByteArray.empty
def BU (l:List Am) (p:BM) (up:Int):Nat→List Am
 |0=>l
 |k+1=>(BU l p up k).set k (CY l p up k)
def Ca (l:List Am) (p:BM) (up:Int):Nat→List ByteArray
 |0=>[]
 |k+1=>Ca l p up k++[CM l p up k]
theorem Dx (l:List Am) (p:BM) (up:Int):∀k,(BU l p up k).length=l.length
 |0=>rfl
 |k+1=>by unfold BU;rw[List.length_set];exact Dx l p up k
theorem Ec (l:List Am) (p:BM) (up:Int):∀k,(Ca l p up k).length=k
 |0=>rfl
 |k+1=>by unfold Ca;rw[List.length_append,Ec l p up k];rfl
theorem PR (l:List Am) (p:BM) (up:Int):∀k j,k≤j→j<l.length→Ag (BU l p up k) j=Ag l j
 |0,_,_,_=>rfl
 |k+1,j,h,hj=>by
  unfold BU;rw[DA (by rw[Dx];exact hj),if_neg (by omega)];exact PR l p up k j (by omega) hj
theorem Om {B:Nat} {w:World} {v:Value} {l:List ByteArray} {s:ByteArray} (ty:TypeId) (h:Nh B w v l) (hs:s.size≤140737488351232) (hl:l.length≤3) (hB:B≤w.heap.size):
  ∃a c x,(Builtin.append_ #[100,100] ty #[v,.slice (some ⟨w.heap.size,0,none⟩) 1 1]).run Tryz.prog (w.alloc (.cells #[.string s] 9))=.ok (.slice a (l.length+1) c) x∧
   Nh B x (.slice a (l.length+1) c) (l++[s])∧AK (fun b=>v.ownBlock=some b) w x∧((Value.slice a (l.length+1) c).ownBlock=v.ownBlock∨∃k,(Value.slice a (l.length+1) c).ownBlock=some k∧w.heap.size≤k):=by
 obtain⟨hown,hok⟩:=h;obtain⟨i0,hi,hz0,hz1,hz2⟩:=info_parts Tryz.infoStr;obtain⟨g,c,x,hr,ho,hg,hor,hlt⟩:=run_append_lies (P:=Tryz.prog) (w.alloc (.cells #[.string s] 9)) 100 ty B 9 i0 _ 1 16 Tryz.underlying100 hi hz0 hz1 hz2 rfl (by omega) v l.length _ (hown.alloc _) ⟨w.heap.size,0,none⟩ 1 1 [.string s] rfl
  (World.news_of_block (cs:=#[.string s]) (t:=9) (fr:=(0,0)) (heap_alloc_new w _)) (by intro u hu;simp only[List.mem_singleton] at hu;subst hu;rfl) (by omega) (by unfold maxLen;omega) (by omega) (by simp;omega) _ rfl
 have hat:(Value.slice (some ⟨g,0,none⟩) (l.length+1) c).ownBlock=v.ownBlock∨(Value.slice (some ⟨g,0,none⟩) (l.length+1) c).ownBlock=some (w.heap.size+1):=by
  rcases hor with h|h
  ·exact .inl h.symm
  ·right;rw[h];simp[Value.ownBlock]
 refine⟨_,c,x,hr,⟨by rw[List.map_append,List.length_append];exact ho,fun r hr=>?_⟩,AK.grown ((AK.refl _ _).alloc _) hg (fun k hk _=>hk),?_⟩
 ·rcases List.mem_append.1 hr with hr|hr
  ·exact hok r hr
  ·simp only[List.mem_singleton] at hr;subst hr;exact hs
 rcases hat with h|h
 ·exact .inl h
 ·exact .inr ⟨_,h,by omega⟩
theorem FD (w0:World):∃Q:World→Prop,SL w0 Q∧In Q w0∧∀x y (T:Nat→Prop),In Q x→AK T x y→(∀b,T b→w0.heap.size≤b)→In Q y:=
 ⟨_,Ib w0 w0 w0.heap.size (Nat.le_refl _) (Nat.le_refl _) (Below.refl _ _),Below.refl _ _,fun x y T hx hu hT=>Below.trans (hx:Below _ _ _) (hu.below (Below.size (hx:Below _ _ _)) hT)⟩
theorem BD.one {S:Nat→Prop} {B:Nat} {w:World} {l:List Am} {g n c:Nat} (h:BD S B w (.slice (some ⟨g,0,none⟩) n c) l) (hl:l.length*120≤140737488351232) {i:Nat} (hi:i<l.length):
  ∃sa sc ra rc oa oc ua uc,Ax S w (Ag l i) (.slice sa (Ag l i).store.length sc) (.slice ra (Ag l i).refs.length rc) (.slice oa (Ag l i).pend.objects.length oc) (.slice ua (Ag l i).pend.updates.length uc)∧
   ∀x,Below w.heap.size w x→x.cell? ⟨g,i*7,none⟩=some (.slice sa (Ag l i).store.length sc)∧x.cell? ⟨g,i*7+1,none⟩=some (.slice ra (Ag l i).refs.length rc)∧x.cell? ⟨g,i*7+2,none⟩=some (.int .i64 (Ag l i).gen)∧x.cell? ⟨g,i*7+3,none⟩=some (.int .i64 (Ag l i).phase)∧
    x.cell? ⟨g,i*7+4,none⟩=some (.slice oa (Ag l i).pend.objects.length oc)∧x.cell? ⟨g,i*7+5,none⟩=some (.slice ua (Ag l i).pend.updates.length uc)∧x.cell? ⟨g,i*7+6,none⟩=some (.bool (Ag l i).pend.force):=by
 obtain⟨vs,h1,h2,h3⟩:=h;have hr:=h3 i hi;obtain⟨sa,sc,e1⟩:=hr.store.vshape;obtain⟨⟨ra,rc⟩,e2⟩:=hr.refs.shape;obtain⟨oa,oc,e3⟩:=hr.objs.vshape;obtain⟨⟨ua,uc⟩,e4⟩:=hr.upds.shape;have hsl:=Iu h2 (S:=fun _=>True) (fun _ _=>trivial) hl (cs:=fun i=>Ba (Ag l i) (vs i)) (fun i hi j u hu=>CJ (cs:=fun i=>Ba (Ag l i) (vs i)) (fun _ _=>rfl) i hi j u hu);obtain⟨a,cap,hv,_,_,_,hc⟩:=hsl;cases hv;obtain⟨b,off,e,_,hcc⟩:=hc (by omega);cases e;refine⟨sa,sc,ra,rc,oa,oc,ua,uc,by rw[←e1,←e2,←e3,←e4];exact hr,fun x hx=>?_⟩;have cc:∀j u,(Ba (Ag l i) (vs i))[j]?=some u→x.cell? ⟨g,i*7+j,none⟩=some u:=fun j u hu=>Ae hx (by have:=hcc i hi j u hu;rw[Nat.zero_add] at this;exact this)
 exact⟨by rw[←e1];exact cc 0 _ rfl,by rw[←e2];exact cc 1 _ rfl,cc 2 _ rfl,cc 3 _ rfl,by rw[←e3];exact cc 4 _ rfl,by rw[←e4];exact cc 5 _ rfl,cc 6 _ rfl⟩
theorem Pi (g c M B:Nat) (w:World) (l:List Am) (p:BM) (t0:ByteArray) (ov uv:Value) (up:Int) (S1:Nat→Prop) (hM:Cw B g c M w l [] t0) (h3:l.length=3) (hl:0≤up∧up≤7)
  (hp:∀x,Below B w x→Ai S1 x ov p.objects∧AJ S1 x uv p.updates) (hT:∀x,Below B w x→Qf x) (hBM:B≤M) (hsz:∀i,i<3→(CM l p up i).size≤140737488351232):
  Calls Tryz.prog 68 #[.pointer (some ⟨M,0,none⟩),Dn p ov uv,.int .i64 up] w fun e w'=>e=.returned (.tuple #[])∧Below B w w'∧Cw B g c M w' (BU l p up 3) (Ca l p up 3) t0:=by
 have HP:=zh hp;have HTb:=zh hT;have Hsz:=zh hsz;have Hup:=zh hl;have H3:=zh h3;have HM:=zh hM;obtain⟨ho,hu⟩:=hp w (Below.refl _ _);obtain⟨oap,ocp,rfl⟩:=ho.vshape;obtain⟨⟨uap,ucp⟩,rfl⟩:=hu.shape;obtain⟨F0,vv0,hO0,hV0,hF0,_,_,_,hMb0⟩:=hM;have hMs:M<w.heap.size:=lt_of_block hMb0;have hgs:=hO0.block rfl;rw[h3] at hMb0;have m0:=Aa (j:=0) (((Below.refl _ _).alloc (Nat.le_refl _) (.cells #[.slice oap p.objects.length ocp,.slice uap p.updates.length ucp,.bool p.force] 28)).block _ hMs|>.trans hMb0) rfl;have HI0:=zh (show Cw B g c M (w.alloc (.cells #[.slice oap p.objects.length ocp,.slice uap p.updates.length ucp,.bool p.force] 28)) (BU l p up 0) (Ca l p up 0) t0∧Below B w (w.alloc (.cells #[.slice oap p.objects.length ocp,.slice uap p.updates.length ucp,.bool p.force] 28))∧(w.alloc (.cells #[.slice oap p.objects.length ocp,.slice uap p.updates.length ucp,.bool p.force] 28)).heap[w.heap.size]?=some (.cells #[.slice oap p.objects.length ocp,.slice uap p.updates.length ucp,.bool p.force] 28 (0,0)) from⟨HM.out.below bal,(Below.refl _ _).alloc (by omega) _,heap_alloc_new w _⟩);clear hp hT hsz hl h3 ho hu hO0 hV0 hF0 hMb0 HM;simp only[Dn]
 go_enter Tryz.func68, Tryz.ntmps68
 go_wp2_with fail;go_loopw [15] (fun a wr=>∃k:Nat,k≤3∧a=.int .i64 k∧Hid (Cw B g c M wr (BU l p up k) (Ca l p up k) t0∧Below B w wr∧wr.heap[w.heap.size]?=some (.cells #[.slice oap p.objects.length ocp,.slice uap p.updates.length ucp,.bool p.force] 28 (0,0)))) (fun a _=>3-(intOf a).toNat)
 case atStart=>exact⟨0,by omega,rfl,HI0.out⟩
 obtain⟨k,hk,rfl,HI⟩:=hrel;clear m0 HI0;by_cases hlt:k<3
 case neg=>
  obtain rfl:k=3:=by omega
  go_wp2_with fail;go_end0;exact⟨rfl,HI.out.2.1,HI.out.1⟩
 obtain⟨⟨F,vv,hO,hV,hF,hvM,hvg,hgM,hMb⟩,hBw,hPb⟩:=HI.out;have HLl:=zh ((Dx l p up k).trans H3.out);have HVl:=zh (Ec l p up k);have hrk:=PR l p up k k (Nat.le_refl _) (by rw[H3.out];exact hlt);have HnT:=zh (show BU l p up (k+1)=(BU l p up k).set k (CY l p up k) from rfl);have HnV:=zh (show Ca l p up (k+1)=Ca l p up k++[CM l p up k] from rfl);have hsk:=Hsz.out k hlt;have Hba:=zh (Up (n:=up) (i:=k) Hup.out hlt).2;obtain⟨Kg,sc0,ra0,rc0,oa0,oc0,ua0,uc0,h5k,hK⟩:=hO.one (by rw[HLl.out];omega) (show k<(BU l p up k).length by rw[HLl.out];exact hlt);rw[hrk] at h5k hK;rw[HLl.out] at hMb;obtain⟨wo,rfl⟩:∃wo:World,wo=wr:=⟨_,rfl⟩;generalize hL:BU l p up k=L at*;generalize hVV:Ca l p up k=V at*;clear hL hVV hrk;obtain⟨x0,x1,x2,x3,x4,x5,x6⟩:=hK _ (Below.refl _ _);have m0:=Aa (j:=0) hMb rfl;have HO:=zh hO;have HV:=zh hV;have HF:=zh hF;have HvM:=zh hvM;have Hvg:=zh hvg;have HgM:=zh hgM;have HMb:=zh hMb;have HBw:=zh hBw;have HPb:=zh hPb;have H5:=zh h5k;have HKk:=zh hK;have Hsk:=zh hsk;have hMw:M<wo.heap.size:=lt_of_block hMb;have hgw:=(hO.block rfl).2;have hPw:w.heap.size<wo.heap.size:=lt_of_block hPb;clear hO hV hF hvM hvg hgM hMb hBw hPb h5k hK HI hsk;have hi1:=zk k;have hi2:(k:Int)<3:=by omega
 obtain⟨Q,hQ,hQ0,hQu⟩:=FD wo;have hQb:=hQ.below;have hQn:=hQ.next
 have HQu:=zh hQu;clear hQu;have hC1:=hQ.alloc _ (.cells (c7 (Ag l k) Kg sc0 ra0 rc0 oa0 oc0 ua0 uc0) 34) hQ0;have HDb:=zh (heap_alloc_new wo (.cells (c7 (Ag l k) Kg sc0 ra0 rc0 oa0 oc0 ua0 uc0) 34));have HPs:=zh (fun x (hx:In Q x)=>show x.heap[w.heap.size]?=some (.cells #[.slice oap p.objects.length ocp,.slice uap p.updates.length ucp,.bool p.force] 28 (0,0)) from((hQb _ hx).block _ hPw).trans HPb.out);cases hb:DU up k
 case false=>
  rw[hb] at Hba;have hbo:=Hba.out;rw[Nat.min_eq_left (show k≤64 by omega)] at hbo;have Hrr:=zh (show CY l p up k=Ag l k by unfold CY;rw[if_neg (by rw[hb];simp)]);have Hss:=zh (show CM l p up k=⟨#[]⟩ by unfold CM;rw[if_neg (by rw[hb];simp)];rfl);have Hrr2:=Hrr;have Hv7:=zh ((H5.out.below ((Below.refl _ _).alloc (Nat.le_refl _) (.cells (c7 (Ag l k) Kg sc0 ra0 rc0 oa0 oc0 ua0 uc0) 34))).weaken (S':=fun b=>F b∨wo.heap.size<b) fun b hb=>.inl hb);go_wp2_with fail;generalize wo.alloc (.cells (c7 (Ag l k) Kg sc0 ra0 rc0 oa0 oc0 ua0 uc0) 34)=w3 at*;clear x0 x1 x2 x3 x4 x5 x6 m0 hbo Hrr2;obtain⟨T,hT,hT1,hTall⟩:=Av w3;have hTQ:∀x,In T x→In Q x:=fun x hx=>hQn _ _ hC1 (hT.below _ hx)
  have HVT:=zh (fun x (hx:In T x)=>show x.cell? ⟨wo.heap.size,0,none⟩=some (.slice Kg (Ag l k).store.length sc0)∧x.cell? ⟨wo.heap.size,1,none⟩=some (.slice ra0 (Ag l k).refs.length rc0)∧x.cell? ⟨wo.heap.size,2,none⟩=some (.int .i64 (Ag l k).gen)∧x.cell? ⟨wo.heap.size,3,none⟩=some (.int .i64 (Ag l k).phase)∧x.cell? ⟨wo.heap.size,4,none⟩=some (.slice oa0 (Ag l k).pend.objects.length oc0)∧x.cell? ⟨wo.heap.size,5,none⟩=some (.slice ua0 (Ag l k).pend.updates.length uc0)∧x.cell? ⟨wo.heap.size,6,none⟩=some (.bool (Ag l k).pend.force) from⟨Ae (hT.below _ hx) (Aa (j:=0) HDb.out rfl),Ae (hT.below _ hx) (Aa (j:=1) HDb.out rfl),Ae (hT.below _ hx) (Aa (j:=2) HDb.out rfl),Ae (hT.below _ hx) (Aa (j:=3) HDb.out rfl),Ae (hT.below _ hx) (Aa (j:=4) HDb.out rfl),Ae (hT.below _ hx) (Aa (j:=5) HDb.out rfl),Ae (hT.below _ hx) (Aa (j:=6) HDb.out rfl)⟩);have hM8:=fun x (hx:In T x)=>show x.cell? ⟨M,0,none⟩=some (.slice (some ⟨g,0,none⟩) 3 c) from Ae (hQb _ (hTQ x hx)) (Aa (j:=0) HMb.out rfl)
  refine rh (fun x:World=>x.cell? ⟨M,0,none⟩=some (.slice (some ⟨g,0,none⟩) 3 c)∧x.cell? ⟨wo.heap.size,0,none⟩=some (.slice Kg (Ag l k).store.length sc0)∧x.cell? ⟨wo.heap.size,1,none⟩=some (.slice ra0 (Ag l k).refs.length rc0)∧x.cell? ⟨wo.heap.size,2,none⟩=some (.int .i64 (Ag l k).gen)∧x.cell? ⟨wo.heap.size,3,none⟩=some (.int .i64 (Ag l k).phase)∧x.cell? ⟨wo.heap.size,4,none⟩=some (.slice oa0 (Ag l k).pend.objects.length oc0)∧x.cell? ⟨wo.heap.size,5,none⟩=some (.slice ua0 (Ag l k).pend.updates.length uc0)∧x.cell? ⟨wo.heap.size,6,none⟩=some (.bool (Ag l k).pend.force)) ?_;have hT0:=hT.drew _ hT1;have hy3:=(hT.below _ hT0).size;generalize w3.drew=y0 at hT0 hy3⊢;have hS8:(fun x:World=>x.cell? ⟨M,0,none⟩=some (.slice (some ⟨g,0,none⟩) 3 c)∧x.cell? ⟨wo.heap.size,0,none⟩=some (.slice Kg (Ag l k).store.length sc0)∧x.cell? ⟨wo.heap.size,1,none⟩=some (.slice ra0 (Ag l k).refs.length rc0)∧x.cell? ⟨wo.heap.size,2,none⟩=some (.int .i64 (Ag l k).gen)∧x.cell? ⟨wo.heap.size,3,none⟩=some (.int .i64 (Ag l k).phase)∧x.cell? ⟨wo.heap.size,4,none⟩=some (.slice oa0 (Ag l k).pend.objects.length oc0)∧x.cell? ⟨wo.heap.size,5,none⟩=some (.slice ua0 (Ag l k).pend.updates.length uc0)∧x.cell? ⟨wo.heap.size,6,none⟩=some (.bool (Ag l k).pend.force)) y0:=⟨hM8 _ hT0,HVT.out _ hT0⟩;refine tk 0 (.pointer (some ⟨M,0,none⟩)) (fun w hSw=>?_) hS8 ?_
  ·go_simp
  simp only[tkS];refine tk 1 (.pointer (some ⟨M,0,none⟩)) (fun w hSw=>?_) hS8 ?_
  ·go_simp
  simp only[tkS];refine tk 2 (.pointer (some ⟨M,0,none⟩)) (fun w hSw=>?_) hS8 ?_
  ·go_simp
  simp only[tkS];refine tk 3 (.pointer (some ⟨M,0,none⟩)) (fun w hSw=>?_) hS8 ?_
  ·go_simp
  simp only[tkS];refine tk 4 (.slice (some ⟨g,0,none⟩) 3 c) (fun w hSw=>?_) hS8 ?_
  ·have yy:=hSw.1;go_simp
  simp only[tkS];refine tk 5 (.int .i64 (k:Int)) (fun w hSw=>?_) hS8 ?_
  ·go_simp
  simp only[tkS];refine tk 6 (.agg (c7 (Ag l k) Kg sc0 ra0 rc0 oa0 oc0 ua0 uc0)) (fun w hSw=>?_) hS8 ?_
  ·obtain⟨_,u0,u1,u2,u3,u4,u5,u6⟩:=hSw;go_simp
  simp only[tkS];refine tk 7 (.pointer (some ⟨g,k*7,none⟩)) (fun w hSw=>?_) hS8 ?_
  ·go_simp
  simp only[tkS];refine al1 8 ?_;refine Or.inl ?_;have hyb:=hQb _ (hTQ _ hT0);obtain⟨z0,z1,z2,z3,z4,z5,z6⟩:=HKk.out _ hyb;have hOy:=HO.out.below hyb;have f0:=hOy.free (k*7);have f1:=hOy.free (k*7+1);have f2:=hOy.free (k*7+2);have f3:=hOy.free (k*7+3);have f4:=hOy.free (k*7+4);have f5:=hOy.free (k*7+5);have f6:=hOy.free (k*7+6);have hset:=hOy.set (i:=k) (r:=Ag l k) (x:=⟨.slice Kg (Ag l k).store.length sc0,.slice ra0 (Ag l k).refs.length rc0,.slice oa0 (Ag l k).pend.objects.length oc0,.slice ua0 (Ag l k).pend.updates.length uc0⟩) (show k<L.length by rw[HLl.out];exact hlt) (S2:=fun b=>(F b∨wo.heap.size<b)∧b<y0.heap.size) (Ax.lt (Hv7.out.below (hT.below _ hT0))) (fun b hb=>⟨hb.2,fun e=>by rcases hb.1 with h|h;exact HO.out.own h (by rw[e];rfl);omega⟩);have Hset:=zh hset;have HMy:=zh ((hyb.block _ hMw).trans HMb.out);have HPy:=zh ((hyb.block _ hPw).trans HPb.out);have HVy:=zh (HV.out.below hyb);have HBy:=zh (HBw.out.trans (hyb.mono (show B≤wo.heap.size by omega)));have hys:=hyb.size;have HS8:=zh hS8;clear hset hOy hyb hM8 hS8 hT0;go_wp2_with fail
  first|refine⟨by kernel_rfl,?_⟩|refine⟨HS8.out,by kernel_rfl,?_⟩
  change Exit.then _ _ _ _ (y0.setCells g (k*7) (Ba (Ag l k) ⟨.slice Kg (Ag l k).store.length sc0,.slice ra0 (Ag l k).refs.length rc0,.slice oa0 (Ag l k).pend.objects.length oc0,.slice ua0 (Ag l k).pend.updates.length uc0⟩))
  have hO9:=Hset.out.1;have hu:=Hset.out.2;have hM9:=hu.blk HMy.out (fun e=>HgM.out e.symm);have hP9:=hu.blk HPy.out (fun e=>by have e2:w.heap.size=g:=e;omega);have hV9:=HVy.out.upd hu (fun q hq e=>Hvg.out (by rw[hq,e]));have hB9:=HBy.out.trans (hu.below (B:=B) (by omega) (fun b hb=>by have e2:b=g:=hb;have:=HO.out.block rfl;omega));have hz9:=hu.size;clear Hset HMy HPy HVy HBy hu HS8 z0 z1 z2 z3 z4 z5 z6 f0 f1 f2 f3 f4 f5 f6;generalize y0.setCells g (k*7) (Ba (Ag l k) ⟨.slice Kg (Ag l k).store.length sc0,.slice ra0 (Ag l k).refs.length rc0,.slice oa0 (Ag l k).pend.objects.length oc0,.slice ua0 (Ag l k).pend.updates.length uc0⟩)=w9 at*;obtain⟨a2,c2,x9,hr9,hs9,hu9,hor9⟩:=Om (s:=⟨#[]⟩) 100 hV9 (by rw[←Hss.out];exact Hsk.out) (by rw[HVl.out];omega) (show B≤w9.heap.size by omega);have hMx:=hu9.blk hM9 HvM.out;have hPx:=hu9.blk hP9 (Gv hV9.1 hP9 (by decide));have j1:=Aa (j:=1) hM9 rfl;have j2:=Aa (j:=1) hMx rfl;have j3:=Ad (j:=1) hMx;have hU:=su M 1 x9 (.slice a2 (V.length+1) c2);have hM10:=Ah (j:=1) hMx (.slice a2 (V.length+1) c2);simp only[List.setIfInBounds_toArray,List.set_cons_zero,List.set_cons_succ] at hM10;have hP10:=hU.blk hPx (fun e=>by omega);have hvv:∀q,vv.ownBlock=some q→B≤q∧q<wo.heap.size:=fun q hq=>HV.out.1.lt _ hq
  have hFF:∀b,(F b∨((F b∨wo.heap.size<b)∧b<y0.heap.size))→B≤b∧b≠M∧vv.ownBlock≠some b:=fun b hb=>by
   have hN:wo.heap.size<b→B≤b∧b≠M∧vv.ownBlock≠some b:=fun h=>⟨by omega,by omega,fun e=>by have:=hvv _ e;omega⟩
   rcases hb with h|⟨h|h,_⟩
   ·exact HF.out b h
   ·exact HF.out b h
   ·exact hN h
  have hlt9:∀b,(F b∨((F b∨wo.heap.size<b)∧b<y0.heap.size))→b<w9.heap.size:=fun b hb=>(hO9.lt hb)
  have hq:∀b,(b<w9.heap.size)→vv.ownBlock≠some b→(Value.slice a2 (V.length+1) c2).ownBlock≠some b:=fun b h1 h2 e=>by
   rcases hor9 with h|⟨q,h,h3⟩
   ·exact h2 (h.symm.trans e)
   ·have:q=b:=by rw[h] at e;exact Option.some.inj e
    omega
  have HEnd:=zh (show Cw B g c M (x9.setCell ⟨M,1,none⟩ (.slice a2 (V.length+1) c2)) (BU l p up (k+1)) (Ca l p up (k+1)) t0∧Below B w (x9.setCell ⟨M,1,none⟩ (.slice a2 (V.length+1) c2))∧(x9.setCell ⟨M,1,none⟩ (.slice a2 (V.length+1) c2)).heap[w.heap.size]?=some (.cells #[.slice oap p.objects.length ocp,.slice uap p.updates.length ucp,.bool p.force] 28 (0,0)) from by
   rw[HnT.out,HnV.out,Hrr.out,Hss.out];refine⟨⟨_,_,?_,hs9.upd hU (fun q hq2 e=>?_),fun b hb=>⟨(hFF b hb).1,(hFF b hb).2.1,hq b (hlt9 b hb) (hFF b hb).2.2⟩,hq M (lt_of_block hM9) HvM.out,hq g (by omega) Hvg.out,HgM.out,?_⟩,?_,hP10⟩
   ·rw[List.length_set];exact(hO9.upd hu9 (fun b hb e=>(hFF b hb).2.2 e) (fun q hq3 e=>by simp only[Value.ownBlock,Option.some.injEq] at hq3;subst hq3;exact Hvg.out e)).upd hU (fun b hb e=>(hFF b hb).2.1 e) (fun q hq3 e=>by simp only[Value.ownBlock,Option.some.injEq] at hq3;exact HgM.out (hq3.trans e))
   ·subst e;exact hq q (lt_of_block hM9) HvM.out hq2
   ·rw[List.length_set,HLl.out];exact hM10
   ·exact(hB9.trans (hu9.below (B:=B) (by omega) (fun b hb=>(hvv b hb).1))).trans (hU.below (B:=B) (by have:=hu9.size;omega) (fun b hb=>by subst hb;exact hBM)))
  have Hr9:=zh hr9;clear hO9 hV9 hB9 hr9 hs9 hu9 hor9 hMx hPx hU hM10 hP10 hvv hFF hlt9 hq hM9 hP9 HO HV HF HMb HKk H5 HBw HPb;go_wp2_with (at_builtin;refine AY rfl (.tmp 60) (.tmp 62) 100 rfl _ _ _ rfl rfl Hr9.out ?_);go_roundw
  case rel=>exact⟨k+1,by omega,by go_num,HEnd.out⟩
  case measure=>simp[intOf];omega
 rw[hb] at Hba;have hbo:=Hba.out;rw[Nat.min_eq_left (show k≤64 by omega)] at hbo;by_cases hph:(Ag l k).phase=0
 case neg=>
  have q1:((Ag l k).phase==0)=false:=by simpa using hph
  have Hrr:=zh (show CY l p up k=Ag l k by unfold CY;rw[if_neg (fun h=>hph h.2)]);have Hss:=zh (show CM l p up k=⟨#[]⟩ by unfold CM;rw[if_neg (fun h=>hph h.2)];rfl);clear hph;have Hv7:=zh ((H5.out.below ((Below.refl _ _).alloc (Nat.le_refl _) (.cells (c7 (Ag l k) Kg sc0 ra0 rc0 oa0 oc0 ua0 uc0) 34))).weaken (S':=fun b=>F b∨wo.heap.size<b) fun b hb=>.inl hb);go_wp2_with fail;generalize wo.alloc (.cells (c7 (Ag l k) Kg sc0 ra0 rc0 oa0 oc0 ua0 uc0) 34)=w3 at*;clear x0 x1 x2 x3 x4 x5 x6 m0 hbo q1;obtain⟨T,hT,hT1,hTall⟩:=Av w3;have hTQ:∀x,In T x→In Q x:=fun x hx=>hQn _ _ hC1 (hT.below _ hx)
  have HVT:=zh (fun x (hx:In T x)=>show x.cell? ⟨wo.heap.size,0,none⟩=some (.slice Kg (Ag l k).store.length sc0)∧x.cell? ⟨wo.heap.size,1,none⟩=some (.slice ra0 (Ag l k).refs.length rc0)∧x.cell? ⟨wo.heap.size,2,none⟩=some (.int .i64 (Ag l k).gen)∧x.cell? ⟨wo.heap.size,3,none⟩=some (.int .i64 (Ag l k).phase)∧x.cell? ⟨wo.heap.size,4,none⟩=some (.slice oa0 (Ag l k).pend.objects.length oc0)∧x.cell? ⟨wo.heap.size,5,none⟩=some (.slice ua0 (Ag l k).pend.updates.length uc0)∧x.cell? ⟨wo.heap.size,6,none⟩=some (.bool (Ag l k).pend.force) from⟨Ae (hT.below _ hx) (Aa (j:=0) HDb.out rfl),Ae (hT.below _ hx) (Aa (j:=1) HDb.out rfl),Ae (hT.below _ hx) (Aa (j:=2) HDb.out rfl),Ae (hT.below _ hx) (Aa (j:=3) HDb.out rfl),Ae (hT.below _ hx) (Aa (j:=4) HDb.out rfl),Ae (hT.below _ hx) (Aa (j:=5) HDb.out rfl),Ae (hT.below _ hx) (Aa (j:=6) HDb.out rfl)⟩);have hM8:=fun x (hx:In T x)=>show x.cell? ⟨M,0,none⟩=some (.slice (some ⟨g,0,none⟩) 3 c) from Ae (hQb _ (hTQ x hx)) (Aa (j:=0) HMb.out rfl)
  refine rh (fun x:World=>x.cell? ⟨M,0,none⟩=some (.slice (some ⟨g,0,none⟩) 3 c)∧x.cell? ⟨wo.heap.size,0,none⟩=some (.slice Kg (Ag l k).store.length sc0)∧x.cell? ⟨wo.heap.size,1,none⟩=some (.slice ra0 (Ag l k).refs.length rc0)∧x.cell? ⟨wo.heap.size,2,none⟩=some (.int .i64 (Ag l k).gen)∧x.cell? ⟨wo.heap.size,3,none⟩=some (.int .i64 (Ag l k).phase)∧x.cell? ⟨wo.heap.size,4,none⟩=some (.slice oa0 (Ag l k).pend.objects.length oc0)∧x.cell? ⟨wo.heap.size,5,none⟩=some (.slice ua0 (Ag l k).pend.updates.length uc0)∧x.cell? ⟨wo.heap.size,6,none⟩=some (.bool (Ag l k).pend.force)) ?_;have hT0:=hT.drew _ hT1;have hy3:=(hT.below _ hT0).size;generalize w3.drew=y0 at hT0 hy3⊢;have hS8:(fun x:World=>x.cell? ⟨M,0,none⟩=some (.slice (some ⟨g,0,none⟩) 3 c)∧x.cell? ⟨wo.heap.size,0,none⟩=some (.slice Kg (Ag l k).store.length sc0)∧x.cell? ⟨wo.heap.size,1,none⟩=some (.slice ra0 (Ag l k).refs.length rc0)∧x.cell? ⟨wo.heap.size,2,none⟩=some (.int .i64 (Ag l k).gen)∧x.cell? ⟨wo.heap.size,3,none⟩=some (.int .i64 (Ag l k).phase)∧x.cell? ⟨wo.heap.size,4,none⟩=some (.slice oa0 (Ag l k).pend.objects.length oc0)∧x.cell? ⟨wo.heap.size,5,none⟩=some (.slice ua0 (Ag l k).pend.updates.length uc0)∧x.cell? ⟨wo.heap.size,6,none⟩=some (.bool (Ag l k).pend.force)) y0:=⟨hM8 _ hT0,HVT.out _ hT0⟩;refine tk 0 (.pointer (some ⟨M,0,none⟩)) (fun w hSw=>?_) hS8 ?_
  ·go_simp
  simp only[tkS];refine tk 1 (.pointer (some ⟨M,0,none⟩)) (fun w hSw=>?_) hS8 ?_
  ·go_simp
  simp only[tkS];refine tk 2 (.pointer (some ⟨M,0,none⟩)) (fun w hSw=>?_) hS8 ?_
  ·go_simp
  simp only[tkS];refine tk 3 (.pointer (some ⟨M,0,none⟩)) (fun w hSw=>?_) hS8 ?_
  ·go_simp
  simp only[tkS];refine tk 4 (.slice (some ⟨g,0,none⟩) 3 c) (fun w hSw=>?_) hS8 ?_
  ·have yy:=hSw.1;go_simp
  simp only[tkS];refine tk 5 (.int .i64 (k:Int)) (fun w hSw=>?_) hS8 ?_
  ·go_simp
  simp only[tkS];refine tk 6 (.agg (c7 (Ag l k) Kg sc0 ra0 rc0 oa0 oc0 ua0 uc0)) (fun w hSw=>?_) hS8 ?_
  ·obtain⟨_,u0,u1,u2,u3,u4,u5,u6⟩:=hSw;go_simp
  simp only[tkS];refine tk 7 (.pointer (some ⟨g,k*7,none⟩)) (fun w hSw=>?_) hS8 ?_
  ·go_simp
  simp only[tkS];refine al1 8 ?_;refine Or.inl ?_;have hyb:=hQb _ (hTQ _ hT0);obtain⟨z0,z1,z2,z3,z4,z5,z6⟩:=HKk.out _ hyb;have hOy:=HO.out.below hyb;have f0:=hOy.free (k*7);have f1:=hOy.free (k*7+1);have f2:=hOy.free (k*7+2);have f3:=hOy.free (k*7+3);have f4:=hOy.free (k*7+4);have f5:=hOy.free (k*7+5);have f6:=hOy.free (k*7+6);have hset:=hOy.set (i:=k) (r:=Ag l k) (x:=⟨.slice Kg (Ag l k).store.length sc0,.slice ra0 (Ag l k).refs.length rc0,.slice oa0 (Ag l k).pend.objects.length oc0,.slice ua0 (Ag l k).pend.updates.length uc0⟩) (show k<L.length by rw[HLl.out];exact hlt) (S2:=fun b=>(F b∨wo.heap.size<b)∧b<y0.heap.size) (Ax.lt (Hv7.out.below (hT.below _ hT0))) (fun b hb=>⟨hb.2,fun e=>by rcases hb.1 with h|h;exact HO.out.own h (by rw[e];rfl);omega⟩);have Hset:=zh hset;have HMy:=zh ((hyb.block _ hMw).trans HMb.out);have HPy:=zh ((hyb.block _ hPw).trans HPb.out);have HVy:=zh (HV.out.below hyb);have HBy:=zh (HBw.out.trans (hyb.mono (show B≤wo.heap.size by omega)));have hys:=hyb.size;have HS8:=zh hS8;clear hset hOy hyb hM8 hS8 hT0;go_wp2_with fail
  first|refine⟨by kernel_rfl,?_⟩|refine⟨HS8.out,by kernel_rfl,?_⟩
  change Exit.then _ _ _ _ (y0.setCells g (k*7) (Ba (Ag l k) ⟨.slice Kg (Ag l k).store.length sc0,.slice ra0 (Ag l k).refs.length rc0,.slice oa0 (Ag l k).pend.objects.length oc0,.slice ua0 (Ag l k).pend.updates.length uc0⟩))
  have hO9:=Hset.out.1;have hu:=Hset.out.2;have hM9:=hu.blk HMy.out (fun e=>HgM.out e.symm);have hP9:=hu.blk HPy.out (fun e=>by have e2:w.heap.size=g:=e;omega);have hV9:=HVy.out.upd hu (fun q hq e=>Hvg.out (by rw[hq,e]));have hB9:=HBy.out.trans (hu.below (B:=B) (by omega) (fun b hb=>by have e2:b=g:=hb;have:=HO.out.block rfl;omega));have hz9:=hu.size;clear Hset HMy HPy HVy HBy hu HS8 z0 z1 z2 z3 z4 z5 z6 f0 f1 f2 f3 f4 f5 f6;generalize y0.setCells g (k*7) (Ba (Ag l k) ⟨.slice Kg (Ag l k).store.length sc0,.slice ra0 (Ag l k).refs.length rc0,.slice oa0 (Ag l k).pend.objects.length oc0,.slice ua0 (Ag l k).pend.updates.length uc0⟩)=w9 at*;obtain⟨a2,c2,x9,hr9,hs9,hu9,hor9⟩:=Om (s:=⟨#[]⟩) 100 hV9 (by rw[←Hss.out];exact Hsk.out) (by rw[HVl.out];omega) (show B≤w9.heap.size by omega);have hMx:=hu9.blk hM9 HvM.out;have hPx:=hu9.blk hP9 (Gv hV9.1 hP9 (by decide));have j1:=Aa (j:=1) hM9 rfl;have j2:=Aa (j:=1) hMx rfl;have j3:=Ad (j:=1) hMx;have hU:=su M 1 x9 (.slice a2 (V.length+1) c2);have hM10:=Ah (j:=1) hMx (.slice a2 (V.length+1) c2);simp only[List.setIfInBounds_toArray,List.set_cons_zero,List.set_cons_succ] at hM10;have hP10:=hU.blk hPx (fun e=>by omega);have hvv:∀q,vv.ownBlock=some q→B≤q∧q<wo.heap.size:=fun q hq=>HV.out.1.lt _ hq
  have hFF:∀b,(F b∨((F b∨wo.heap.size<b)∧b<y0.heap.size))→B≤b∧b≠M∧vv.ownBlock≠some b:=fun b hb=>by
   have hN:wo.heap.size<b→B≤b∧b≠M∧vv.ownBlock≠some b:=fun h=>⟨by omega,by omega,fun e=>by have:=hvv _ e;omega⟩
   rcases hb with h|⟨h|h,_⟩
   ·exact HF.out b h
   ·exact HF.out b h
   ·exact hN h
  have hlt9:∀b,(F b∨((F b∨wo.heap.size<b)∧b<y0.heap.size))→b<w9.heap.size:=fun b hb=>(hO9.lt hb)
  have hq:∀b,(b<w9.heap.size)→vv.ownBlock≠some b→(Value.slice a2 (V.length+1) c2).ownBlock≠some b:=fun b h1 h2 e=>by
   rcases hor9 with h|⟨q,h,h3⟩
   ·exact h2 (h.symm.trans e)
   ·have:q=b:=by rw[h] at e;exact Option.some.inj e
    omega
  have HEnd:=zh (show Cw B g c M (x9.setCell ⟨M,1,none⟩ (.slice a2 (V.length+1) c2)) (BU l p up (k+1)) (Ca l p up (k+1)) t0∧Below B w (x9.setCell ⟨M,1,none⟩ (.slice a2 (V.length+1) c2))∧(x9.setCell ⟨M,1,none⟩ (.slice a2 (V.length+1) c2)).heap[w.heap.size]?=some (.cells #[.slice oap p.objects.length ocp,.slice uap p.updates.length ucp,.bool p.force] 28 (0,0)) from by
   rw[HnT.out,HnV.out,Hrr.out,Hss.out];refine⟨⟨_,_,?_,hs9.upd hU (fun q hq2 e=>?_),fun b hb=>⟨(hFF b hb).1,(hFF b hb).2.1,hq b (hlt9 b hb) (hFF b hb).2.2⟩,hq M (lt_of_block hM9) HvM.out,hq g (by omega) Hvg.out,HgM.out,?_⟩,?_,hP10⟩
   ·rw[List.length_set];exact(hO9.upd hu9 (fun b hb e=>(hFF b hb).2.2 e) (fun q hq3 e=>by simp only[Value.ownBlock,Option.some.injEq] at hq3;subst hq3;exact Hvg.out e)).upd hU (fun b hb e=>(hFF b hb).2.1 e) (fun q hq3 e=>by simp only[Value.ownBlock,Option.some.injEq] at hq3;exact HgM.out (hq3.trans e))
   ·subst e;exact hq q (lt_of_block hM9) HvM.out hq2
   ·rw[List.length_set,HLl.out];exact hM10
   ·exact(hB9.trans (hu9.below (B:=B) (by omega) (fun b hb=>(hvv b hb).1))).trans (hU.below (B:=B) (by have:=hu9.size;omega) (fun b hb=>by subst hb;exact hBM)))
  have Hr9:=zh hr9;clear hO9 hV9 hB9 hr9 hs9 hu9 hor9 hMx hPx hU hM10 hP10 hvv hFF hlt9 hq hM9 hP9 HO HV HF HMb HKk H5 HBw HPb;go_wp2_with (at_builtin;refine AY rfl (.tmp 60) (.tmp 62) 100 rfl _ _ _ rfl rfl Hr9.out ?_);go_roundw
  case rel=>exact⟨k+1,by omega,by go_num,HEnd.out⟩
  case measure=>simp[intOf];omega
 have q1:((Ag l k).phase==0)=true:=by simpa using hph
 have Hrr:=zh (show CY l p up k=Ps (Jt (Ag l k) p) by unfold CY;rw[if_pos ⟨hb,hph⟩]);have Hss:=zh (show CM l p up k=MW (Jt (Ag l k) p) by unfold CM;rw[if_pos ⟨hb,hph⟩]);clear hph;go_upto_region 7 with(fail);have HvK:=zh (H5.out.below ((Below.refl _ _).alloc (Nat.le_refl _) (.cells (c7 (Ag l k) Kg sc0 ra0 rc0 oa0 oc0 ua0 uc0) 34)));have hs3:(wo.alloc (.cells (c7 (Ag l k) Kg sc0 ra0 rc0 oa0 oc0 ua0 uc0) 34)).heap.size=wo.heap.size+1:=by simp
 generalize wo.alloc (.cells (c7 (Ag l k) Kg sc0 ra0 rc0 oa0 oc0 ua0 uc0) 34)=w5 at*;clear x0 x1 x2 x3 x4 x5 x6 m0 hbo q1;obtain⟨y0,y1,y2,y3,y4,y5,y6⟩:=bc7 HDb.out;have hPq:=HPs.out _ hC1;obtain⟨p0,p1,p2⟩:=bc3 hPq;have hB5:=HBw.out.trans ((hQb _ hC1).mono (show B≤wo.heap.size by omega));have HC:=zh (Sk (Ag l k) p _ _ _ _ _ _ _ _ _ HvK.out (HP.out _ hB5).1 (HP.out _ hB5).2);simp only[AO,Dn] at HC;generalize Jt (Ag l k) p=r1 at*;generalize Kc (Ag l k) p=e1 at*;clear hPq;go_wp2_with fail;refine HC.out.mono ?_;rintro e u1 ⟨sv5,rv5,ov5,uv5,rfl,hv,hb1⟩;obtain⟨sa5,Ek,rfl⟩:=hv.store.vshape;obtain⟨⟨ra5,rc5⟩,rfl⟩:=hv.refs.shape;obtain⟨oa5,oc5,rfl⟩:=hv.objs.vshape;obtain⟨⟨ua5,uc5⟩,rfl⟩:=hv.upds.shape;have hCu:=hQn _ _ hC1 hb1;have hblk:=(hb1.block _ (by omega)).trans HDb.out;obtain⟨g0,g1,g2,g3,g4,g5,g6⟩:=bc7 hblk;obtain⟨f0,f1,f2,f3,f4,f5,f6⟩:=bf7 hblk;have hU:=AM (wo.heap.size) (.slice sa5 r1.store.length Ek) (.slice ra5 r1.refs.length rc5) (.int .i64 r1.gen) (.int .i64 r1.phase) (.slice oa5 r1.pend.objects.length oc5) (.slice ua5 r1.pend.updates.length uc5) (.bool r1.pend.force) u1;have hW:=AZ (v0:=.slice sa5 r1.store.length Ek) (v1:=.slice ra5 r1.refs.length rc5) (v2:=.int .i64 r1.gen) (v3:=.int .i64 r1.phase) (v4:=.slice oa5 r1.pend.objects.length oc5) (v5:=.slice ua5 r1.pend.updates.length uc5) (v6:=.bool r1.pend.force) hblk;have hC5:=HQu.out _ _ _ hCu hU (fun b hb=>by have e2:b=wo.heap.size:=hb;omega);have hB6:=HBw.out.trans ((hQb _ hC5).mono (show B≤wo.heap.size by omega))
 have hz1:=hb1.size;have hz2:=hU.size;have hv5:=hv.upd hU (fun b hb e=>by have e2:b=wo.heap.size:=e;omega);have HC2:=zh (Ys r1 _ _ _ _ _ _ hv5 (HTb.out _ hB6));simp only[AO] at HC2⊢;have HW:=zh hW;have HC5:=zh hC5;have Hz:=zh (And.intro hz1 hz2);clear HC hv hv5 hb1 hU hB5 hB6 hblk hC5 hCu hz1 hz2 HDb y0 y1 y2 y3 y4 y5 y6 p0 p1 p2;obtain⟨t0,t1,t2,t3,t4,t5,t6⟩:=bc7 hW;clear hW;simp only[Bg] at t0 t1 t2 t3 t4 t5 t6;generalize Ps r1=r2 at*;generalize MW r1=s2 at*;generalize IK r1 1=e2 at*;go_wp2_with fail;refine HC2.out.mono ?_;rintro e u2 ⟨sv6,rv6,ov6,uv6,rfl,hv,hb2⟩;obtain⟨sa6,sc6,rfl⟩:=hv.store.vshape;obtain⟨⟨ra6,rc6⟩,rfl⟩:=hv.refs.shape;obtain⟨oa6,oc6,rfl⟩:=hv.objs.vshape;obtain⟨⟨ua6,uc6⟩,rfl⟩:=hv.upds.shape;clear g0 g1 g2 g3 g4 g5 g6 f0 f1 f2 f3 f4 f5 f6 t0 t1 t2 t3 t4 t5 t6;have hlt5:wo.heap.size<(Bg (wo.heap.size) (.slice sa5 r1.store.length Ek) (.slice ra5 r1.refs.length rc5) (.int .i64 r1.gen) (.int .i64 r1.phase) (.slice oa5 r1.pend.objects.length oc5) (.slice ua5 r1.pend.updates.length uc5) (.bool r1.pend.force) u1).heap.size:=lt_of_block HW.out;have hCu:=hQn _ _ HC5.out hb2;have hblk:=(hb2.block _ hlt5).trans HW.out;obtain⟨g0,g1,g2,g3,g4,g5,g6⟩:=bc7 hblk;obtain⟨f0,f1,f2,f3,f4,f5,f6⟩:=bf7 hblk;have hU:=AM (wo.heap.size) (.slice sa6 r2.store.length sc6) (.slice ra6 r2.refs.length rc6) (.int .i64 r2.gen) (.int .i64 r2.phase) (.slice oa6 r2.pend.objects.length oc6) (.slice ua6 r2.pend.updates.length uc6) (.bool r2.pend.force) u2;have HDb:=zh (AZ (v0:=.slice sa6 r2.store.length sc6) (v1:=.slice ra6 r2.refs.length rc6) (v2:=.int .i64 r2.gen) (v3:=.int .i64 r2.phase) (v4:=.slice oa6 r2.pend.objects.length oc6) (v5:=.slice ua6 r2.pend.updates.length uc6) (v6:=.bool r2.pend.force) hblk)
 have hC6:=HQu.out _ _ _ hCu hU (fun b hb=>by have e2:b=wo.heap.size:=hb;omega);have Hv7:=zh ((hv.upd hU (fun b hb e=>by have e2:b=wo.heap.size:=e;omega)).weaken (S':=fun b=>F b∨wo.heap.size<b) fun b hb=>.inr (by omega));clear HC2 hv hb2 hU hblk hCu HW HC5 Hz hlt5 hC1;simp only[AO];have hC1:=hC6;clear hC6;go_wp2_with fail;change Code.wp _ _ _ _ (Bg (wo.heap.size) (.slice sa6 r2.store.length sc6) (.slice ra6 r2.refs.length rc6) (.int .i64 r2.gen) (.int .i64 r2.phase) (.slice oa6 r2.pend.objects.length oc6) (.slice ua6 r2.pend.updates.length uc6) (.bool r2.pend.force) u2);generalize Bg (wo.heap.size) (.slice sa6 r2.store.length sc6) (.slice ra6 r2.refs.length rc6) (.int .i64 r2.gen) (.int .i64 r2.phase) (.slice oa6 r2.pend.objects.length oc6) (.slice ua6 r2.pend.updates.length uc6) (.bool r2.pend.force) u2=w3 at*;clear g0 g1 g2 g3 g4 g5 g6 f0 f1 f2 f3 f4 f5 f6;obtain⟨T,hT,hT1,hTall⟩:=Av w3;have hTQ:∀x,In T x→In Q x:=fun x hx=>hQn _ _ hC1 (hT.below _ hx)
 have HVT:=zh (fun x (hx:In T x)=>show x.cell? ⟨wo.heap.size,0,none⟩=some (.slice sa6 r2.store.length sc6)∧x.cell? ⟨wo.heap.size,1,none⟩=some (.slice ra6 r2.refs.length rc6)∧x.cell? ⟨wo.heap.size,2,none⟩=some (.int .i64 r2.gen)∧x.cell? ⟨wo.heap.size,3,none⟩=some (.int .i64 r2.phase)∧x.cell? ⟨wo.heap.size,4,none⟩=some (.slice oa6 r2.pend.objects.length oc6)∧x.cell? ⟨wo.heap.size,5,none⟩=some (.slice ua6 r2.pend.updates.length uc6)∧x.cell? ⟨wo.heap.size,6,none⟩=some (.bool r2.pend.force) from⟨Ae (hT.below _ hx) (Aa (j:=0) HDb.out rfl),Ae (hT.below _ hx) (Aa (j:=1) HDb.out rfl),Ae (hT.below _ hx) (Aa (j:=2) HDb.out rfl),Ae (hT.below _ hx) (Aa (j:=3) HDb.out rfl),Ae (hT.below _ hx) (Aa (j:=4) HDb.out rfl),Ae (hT.below _ hx) (Aa (j:=5) HDb.out rfl),Ae (hT.below _ hx) (Aa (j:=6) HDb.out rfl)⟩);have hM8:=fun x (hx:In T x)=>show x.cell? ⟨M,0,none⟩=some (.slice (some ⟨g,0,none⟩) 3 c) from Ae (hQb _ (hTQ x hx)) (Aa (j:=0) HMb.out rfl)
 refine rh (fun x:World=>x.cell? ⟨M,0,none⟩=some (.slice (some ⟨g,0,none⟩) 3 c)∧x.cell? ⟨wo.heap.size,0,none⟩=some (.slice sa6 r2.store.length sc6)∧x.cell? ⟨wo.heap.size,1,none⟩=some (.slice ra6 r2.refs.length rc6)∧x.cell? ⟨wo.heap.size,2,none⟩=some (.int .i64 r2.gen)∧x.cell? ⟨wo.heap.size,3,none⟩=some (.int .i64 r2.phase)∧x.cell? ⟨wo.heap.size,4,none⟩=some (.slice oa6 r2.pend.objects.length oc6)∧x.cell? ⟨wo.heap.size,5,none⟩=some (.slice ua6 r2.pend.updates.length uc6)∧x.cell? ⟨wo.heap.size,6,none⟩=some (.bool r2.pend.force)) ?_;have hT0:=hT.drew _ hT1;have hy3:=(hT.below _ hT0).size;generalize w3.drew=y0 at hT0 hy3⊢;have hS8:(fun x:World=>x.cell? ⟨M,0,none⟩=some (.slice (some ⟨g,0,none⟩) 3 c)∧x.cell? ⟨wo.heap.size,0,none⟩=some (.slice sa6 r2.store.length sc6)∧x.cell? ⟨wo.heap.size,1,none⟩=some (.slice ra6 r2.refs.length rc6)∧x.cell? ⟨wo.heap.size,2,none⟩=some (.int .i64 r2.gen)∧x.cell? ⟨wo.heap.size,3,none⟩=some (.int .i64 r2.phase)∧x.cell? ⟨wo.heap.size,4,none⟩=some (.slice oa6 r2.pend.objects.length oc6)∧x.cell? ⟨wo.heap.size,5,none⟩=some (.slice ua6 r2.pend.updates.length uc6)∧x.cell? ⟨wo.heap.size,6,none⟩=some (.bool r2.pend.force)) y0:=⟨hM8 _ hT0,HVT.out _ hT0⟩;refine tk 0 (.pointer (some ⟨M,0,none⟩)) (fun w hSw=>?_) hS8 ?_
 ·go_simp
 simp only[tkS];refine tk 1 (.pointer (some ⟨M,0,none⟩)) (fun w hSw=>?_) hS8 ?_
 ·go_simp
 simp only[tkS];refine tk 2 (.pointer (some ⟨M,0,none⟩)) (fun w hSw=>?_) hS8 ?_
 ·go_simp
 simp only[tkS];refine tk 3 (.pointer (some ⟨M,0,none⟩)) (fun w hSw=>?_) hS8 ?_
 ·go_simp
 simp only[tkS];refine tk 4 (.slice (some ⟨g,0,none⟩) 3 c) (fun w hSw=>?_) hS8 ?_
 ·have yy:=hSw.1;go_simp
 simp only[tkS];refine tk 5 (.int .i64 (k:Int)) (fun w hSw=>?_) hS8 ?_
 ·go_simp
 simp only[tkS];refine tk 6 (.agg (c7 r2 sa6 sc6 ra6 rc6 oa6 oc6 ua6 uc6)) (fun w hSw=>?_) hS8 ?_
 ·obtain⟨_,u0,u1,u2,u3,u4,u5,u6⟩:=hSw;go_simp
 simp only[tkS];refine tk 7 (.pointer (some ⟨g,k*7,none⟩)) (fun w hSw=>?_) hS8 ?_
 ·go_simp
 simp only[tkS];refine al1 8 ?_;refine Or.inl ?_;have hyb:=hQb _ (hTQ _ hT0);obtain⟨z0,z1,z2,z3,z4,z5,z6⟩:=HKk.out _ hyb;have hOy:=HO.out.below hyb;have f0:=hOy.free (k*7);have f1:=hOy.free (k*7+1);have f2:=hOy.free (k*7+2);have f3:=hOy.free (k*7+3);have f4:=hOy.free (k*7+4);have f5:=hOy.free (k*7+5);have f6:=hOy.free (k*7+6);have hset:=hOy.set (i:=k) (r:=r2) (x:=⟨.slice sa6 r2.store.length sc6,.slice ra6 r2.refs.length rc6,.slice oa6 r2.pend.objects.length oc6,.slice ua6 r2.pend.updates.length uc6⟩) (show k<L.length by rw[HLl.out];exact hlt) (S2:=fun b=>(F b∨wo.heap.size<b)∧b<y0.heap.size) (Ax.lt (Hv7.out.below (hT.below _ hT0))) (fun b hb=>⟨hb.2,fun e=>by rcases hb.1 with h|h;exact HO.out.own h (by rw[e];rfl);omega⟩);have Hset:=zh hset;have HMy:=zh ((hyb.block _ hMw).trans HMb.out);have HPy:=zh ((hyb.block _ hPw).trans HPb.out);have HVy:=zh (HV.out.below hyb);have HBy:=zh (HBw.out.trans (hyb.mono (show B≤wo.heap.size by omega)));have hys:=hyb.size;have HS8:=zh hS8;clear hset hOy hyb hM8 hS8 hT0;go_wp2_with fail
 first|refine⟨by kernel_rfl,?_⟩|refine⟨HS8.out,by kernel_rfl,?_⟩
 change Exit.then _ _ _ _ (y0.setCells g (k*7) (Ba (r2) ⟨.slice sa6 r2.store.length sc6,.slice ra6 r2.refs.length rc6,.slice oa6 r2.pend.objects.length oc6,.slice ua6 r2.pend.updates.length uc6⟩))
 have hO9:=Hset.out.1;have hu:=Hset.out.2;have hM9:=hu.blk HMy.out (fun e=>HgM.out e.symm);have hP9:=hu.blk HPy.out (fun e=>by have e2:w.heap.size=g:=e;omega);have hV9:=HVy.out.upd hu (fun q hq e=>Hvg.out (by rw[hq,e]));have hB9:=HBy.out.trans (hu.below (B:=B) (by omega) (fun b hb=>by have e2:b=g:=hb;have:=HO.out.block rfl;omega));have hz9:=hu.size;clear Hset HMy HPy HVy HBy hu HS8 z0 z1 z2 z3 z4 z5 z6 f0 f1 f2 f3 f4 f5 f6;generalize y0.setCells g (k*7) (Ba (r2) ⟨.slice sa6 r2.store.length sc6,.slice ra6 r2.refs.length rc6,.slice oa6 r2.pend.objects.length oc6,.slice ua6 r2.pend.updates.length uc6⟩)=w9 at*;obtain⟨a2,c2,x9,hr9,hs9,hu9,hor9⟩:=Om (s:=s2) 100 hV9 (by rw[←Hss.out];exact Hsk.out) (by rw[HVl.out];omega) (show B≤w9.heap.size by omega);have hMx:=hu9.blk hM9 HvM.out;have hPx:=hu9.blk hP9 (Gv hV9.1 hP9 (by decide));have j1:=Aa (j:=1) hM9 rfl;have j2:=Aa (j:=1) hMx rfl;have j3:=Ad (j:=1) hMx;have hU:=su M 1 x9 (.slice a2 (V.length+1) c2);have hM10:=Ah (j:=1) hMx (.slice a2 (V.length+1) c2);simp only[List.setIfInBounds_toArray,List.set_cons_zero,List.set_cons_succ] at hM10;have hP10:=hU.blk hPx (fun e=>by omega);have hvv:∀q,vv.ownBlock=some q→B≤q∧q<wo.heap.size:=fun q hq=>HV.out.1.lt _ hq
 have hFF:∀b,(F b∨((F b∨wo.heap.size<b)∧b<y0.heap.size))→B≤b∧b≠M∧vv.ownBlock≠some b:=fun b hb=>by
  have hN:wo.heap.size<b→B≤b∧b≠M∧vv.ownBlock≠some b:=fun h=>⟨by omega,by omega,fun e=>by have:=hvv _ e;omega⟩
  rcases hb with h|⟨h|h,_⟩
  ·exact HF.out b h
  ·exact HF.out b h
  ·exact hN h
 have hlt9:∀b,(F b∨((F b∨wo.heap.size<b)∧b<y0.heap.size))→b<w9.heap.size:=fun b hb=>(hO9.lt hb)
 have hq:∀b,(b<w9.heap.size)→vv.ownBlock≠some b→(Value.slice a2 (V.length+1) c2).ownBlock≠some b:=fun b h1 h2 e=>by
  rcases hor9 with h|⟨q,h,h3⟩
  ·exact h2 (h.symm.trans e)
  ·have:q=b:=by rw[h] at e;exact Option.some.inj e
   omega
 have HEnd:=zh (show Cw B g c M (x9.setCell ⟨M,1,none⟩ (.slice a2 (V.length+1) c2)) (BU l p up (k+1)) (Ca l p up (k+1)) t0∧Below B w (x9.setCell ⟨M,1,none⟩ (.slice a2 (V.length+1) c2))∧(x9.setCell ⟨M,1,none⟩ (.slice a2 (V.length+1) c2)).heap[w.heap.size]?=some (.cells #[.slice oap p.objects.length ocp,.slice uap p.updates.length ucp,.bool p.force] 28 (0,0)) from by
  rw[HnT.out,HnV.out,Hrr.out,Hss.out];refine⟨⟨_,_,?_,hs9.upd hU (fun q hq2 e=>?_),fun b hb=>⟨(hFF b hb).1,(hFF b hb).2.1,hq b (hlt9 b hb) (hFF b hb).2.2⟩,hq M (lt_of_block hM9) HvM.out,hq g (by omega) Hvg.out,HgM.out,?_⟩,?_,hP10⟩
  ·rw[List.length_set];exact(hO9.upd hu9 (fun b hb e=>(hFF b hb).2.2 e) (fun q hq3 e=>by simp only[Value.ownBlock,Option.some.injEq] at hq3;subst hq3;exact Hvg.out e)).upd hU (fun b hb e=>(hFF b hb).2.1 e) (fun q hq3 e=>by simp only[Value.ownBlock,Option.some.injEq] at hq3;exact HgM.out (hq3.trans e))
  ·subst e;exact hq q (lt_of_block hM9) HvM.out hq2
  ·rw[List.length_set,HLl.out];exact hM10
  ·exact(hB9.trans (hu9.below (B:=B) (by omega) (fun b hb=>(hvv b hb).1))).trans (hU.below (B:=B) (by have:=hu9.size;omega) (fun b hb=>by subst hb;exact hBM)))
 have Hr9:=zh hr9;clear hO9 hV9 hB9 hr9 hs9 hu9 hor9 hMx hPx hU hM10 hP10 hvv hFF hlt9 hq hM9 hP9 HO HV HF HMb HKk H5 HBw HPb;go_wp2_with (at_builtin;refine AY rfl (.tmp 60) (.tmp 62) 100 rfl _ _ _ rfl rfl Hr9.out ?_);go_roundw
 case rel=>exact⟨k+1,by omega,by go_num,HEnd.out⟩
 case measure=>simp[intOf];omega
variable [Ghost]
theorem Rs (M i p q:Nat) (vv:Value) (vs:List ByteArray) (t:ByteArray) (late:Int) (S:Nat→Prop) (w:World) (d1:w.cell? ⟨p,0,none⟩=some (.pointer (some ⟨M,0,none⟩))) (d2:w.cell? ⟨q,0,none⟩=some (.int .i64 late)) (c1:w.cell? ⟨M,1,none⟩=some vv) (c2:w.cell? ⟨M,2,none⟩=some (.string t)) (hv:De S w vv vs) (hi:i<vs.length) (hl:0≤late∧late≤7) (hn:vs.length≤3):
  Calls Tryz.prog 100 #[.int .i64 (i:Int),.pointer (some ⟨p,0,none⟩),.pointer (some ⟨q,0,none⟩)] w fun e w'=>e=.returned (.bool (((sa vs i).toList==t.toList) && !DU late i))∧Below w.heap.size w w':=by
 have HC:=zh (Mm M i vv vs t late S w c1 c2 hv hi hl hn);generalize (((sa vs i).toList==t.toList) && !DU late i)=b at*;clear hv hi hl hn c1 c2
 go_enter Tryz.func100, Tryz.ntmps100
 go_wp2_with fail;refine HC.out.mono ?_;rintro e w1 ⟨rfl,hb⟩;have HE:=zh hb;clear hb;go_wp2_with fail;go_ret;exact⟨rfl,HE.out⟩
theorem Rn (i:Nat) (w:World):
  Calls Tryz.prog 70 #[.int .i64 (i:Int)] w fun e w'=>e=.returned (.bool false)∧Below w.heap.size w w':=by
 have HE:=zh (Below.refl w.heap.size w)
 go_enter Tryz.func70, Tryz.ntmps70
 go_wp2_with fail;go_ret;exact⟨rfl,HE.out⟩
theorem LZ (n:Int) (i:Nat) (w:World) (hn:0≤n∧n≤7) (hi:i<3):
  Calls Tryz.prog 55 #[.int .i64 n,.int .i64 (i:Int)] w fun e w'=>e=.returned (.bool (DU n i))∧Below w.heap.size w w':=by
 have HE:=zh ((Below.refl w.heap.size w).alloc (Nat.le_refl _) (.cells #[.int .i64 1,.int .i64 2,.int .i64 4] 3));have h1:n=0∨n=1∨n=2∨n=3∨n=4∨n=5∨n=6∨n=7:=by omega
 have h2:i=0∨i=1∨i=2:=by omega
 clear hn hi;rcases h2 with rfl|rfl|rfl<;>rcases h1 with rfl|rfl|rfl|rfl|rfl|rfl|rfl|rfl
 all_goals
  go_enter Tryz.func55, Tryz.ntmps55
  go_wp2_with fail;go_ret;exact⟨rfl,HE.out⟩
theorem Nt (w:World):
  Calls Tryz.prog 19 #[] w fun e w'=>∃v,e=.returned (.agg #[v])∧Az (fun _=>True) w' v [BE,BE,BE]∧Below w.heap.size w w':=by
 have hmk:∀w,(Instr.makeSlice 22 (.int .i64 3) (.int .i64 3)).run Tryz.prog w=.ok (.slice (some ⟨w.heap.size,0,none⟩) 3 3) (w.alloc (.cells #[.slice none 0 0,.slice none 0 0,.int .i64 0,.int .i64 0,.slice none 0 0,.slice none 0 0,.bool false,.slice none 0 0,.slice none 0 0,.int .i64 0,.int .i64 0,.slice none 0 0,.slice none 0 0,.bool false,.slice none 0 0,.slice none 0 0,.int .i64 0,.int .i64 0,.slice none 0 0,.slice none 0 0,.bool false] 34)):=fun _=>by kernel_rfl
 have hz0:=heap_alloc_new (w.alloc (.cells #[.slice (some ⟨w.heap.size+1,0,none⟩) 3 3] 24)) (.cells #[.slice none 0 0,.slice none 0 0,.int .i64 0,.int .i64 0,.slice none 0 0,.slice none 0 0,.bool false,.slice none 0 0,.slice none 0 0,.int .i64 0,.int .i64 0,.slice none 0 0,.slice none 0 0,.bool false,.slice none 0 0,.slice none 0 0,.int .i64 0,.int .i64 0,.slice none 0 0,.slice none 0 0,.bool false] 34);have hc0:=(((Below.refl _ _).alloc (Nat.le_refl _) (.cells #[.slice none 0 0,.slice none 0 0,.int .i64 0,.int .i64 0,.slice none 0 0,.slice none 0 0,.bool false,.slice none 0 0,.slice none 0 0,.int .i64 0,.int .i64 0,.slice none 0 0,.slice none 0 0,.bool false,.slice none 0 0,.slice none 0 0,.int .i64 0,.int .i64 0,.slice none 0 0,.slice none 0 0,.bool false] 34)).block _ (by simp)).trans (heap_alloc_new w (.cells #[.slice (some ⟨w.heap.size+1,0,none⟩) 3 3] 24));have hs0:(w.alloc (.cells #[.slice (some ⟨w.heap.size+1,0,none⟩) 3 3] 24)).heap.size=w.heap.size+1:=by simp
 rw[hs0] at hz0;have hb0:=((Below.refl w.heap.size w).alloc (Nat.le_refl _) (.cells #[.slice (some ⟨w.heap.size+1,0,none⟩) 3 3] 24)).alloc (by simp) (.cells #[.slice none 0 0,.slice none 0 0,.int .i64 0,.int .i64 0,.slice none 0 0,.slice none 0 0,.bool false,.slice none 0 0,.slice none 0 0,.int .i64 0,.int .i64 0,.slice none 0 0,.slice none 0 0,.bool false,.slice none 0 0,.slice none 0 0,.int .i64 0,.int .i64 0,.slice none 0 0,.slice none 0 0,.bool false] 34);have HZ:=zh hz0;have HC:=zh hc0;have HB:=zh hb0;clear hz0 hc0 hb0 hs0
 go_enter Tryz.func19, Tryz.ntmps19
 go_wp2_with fail;generalize ((w.alloc (.cells #[.slice (some ⟨w.heap.size+1,0,none⟩) 3 3] 24)).alloc (.cells #[.slice none 0 0,.slice none 0 0,.int .i64 0,.int .i64 0,.slice none 0 0,.slice none 0 0,.bool false,.slice none 0 0,.slice none 0 0,.int .i64 0,.int .i64 0,.slice none 0 0,.slice none 0 0,.bool false,.slice none 0 0,.slice none 0 0,.int .i64 0,.int .i64 0,.slice none 0 0,.slice none 0 0,.bool false] 34))=x at*;have k0:=Aa (j:=0) HC.out rfl;have hz:∀i,i<3→Ag [BE,BE,BE] i=BE:=fun i hi=>by
  have:i=0∨i=1∨i=2:=by omega
  rcases this with rfl|rfl|rfl<;>rfl
 refine bodyPost_ret (v:=.agg #[.slice (some ⟨w.heap.size+1,0,none⟩) 3 3]) (by simp[results,Tryz.results19,go_sem];simp[k0]<;>rfl) rfl ?_;refine⟨_,rfl,⟨fun _=>⟨.slice none 0 0,.slice none 0 0,.slice none 0 0,.slice none 0 0⟩,⟨_,3,rfl,by decide,by decide,by decide,fun _=>⟨_,0,rfl,⟨trivial,MX.of_block HZ.out⟩,fun i hi j u hu=>?_⟩⟩,fun i hi=>?_⟩,HB.out⟩
 ·replace hu:(Ba (Ag [BE,BE,BE] i) ⟨.slice none 0 0,.slice none 0 0,.slice none 0 0,.slice none 0 0⟩)[j]?=some u:=hu
  rw[hz i hi] at hu;have hj:j<7:=by
   rcases Nat.lt_or_ge j 7 with h|h
   ·exact h
   ·rw[List.getElem?_eq_none (by simpa[Ba] using h)] at hu;cases hu
  have h1:i=0∨i=1∨i=2:=by have:i<3:=hi;omega
  have h2:j=0∨j=1∨j=2∨j=3∨j=4∨j=5∨j=6:=by omega
  rcases h1 with rfl|rfl|rfl<;>rcases h2 with rfl|rfl|rfl|rfl|rfl|rfl|rfl<;>(cases hu;exact Aa HZ.out rfl)
 ·rw[hz i hi];exact Dz _ _
end Go.Proofs.YtgbnlmplkealdaaGreatDoor
