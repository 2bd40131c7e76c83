
/- RepD: walks of repair. -/
import Derived.Test.YtgbnlmplkealdaaGreatDoorC34
set_option linter.all false
set_option maxHeartbeats 8000000
set_option maxRecDepth 100000
namespace Go.Proofs.YtgbnlmplkealdaaGreatDoor
open Go.RowKit
variable [Ghost]
def Dl (l:List Am) (b k:Nat):Int:=if(Ag l k).gen=(Ag l b).gen then 0 else Bq (Ag l b) (Ag l k)
def CX (l:List Am) (b:Nat):Nat→List Am
 |0=>l
 |k+1=>if(Ag l k).gen=(Ag l b).gen then CX l b k else(CX l b k).set k (Bh (Ag l b) (Ag l k))
def Fr (l:List Am) (b:Nat):Nat→Nat
 |0=>0
 |k+1=>if(Ag l k).gen=(Ag l b).gen then Fr l b k else Fr l b k+1
theorem Dw (l:List Am) (b:Nat):∀k,(CX l b k).length=l.length
 |0=>rfl
 |k+1=>by unfold CX;split;exact Dw l b k;rw[List.length_set];exact Dw l b k
theorem Mb (l:List Am) (b:Nat):∀k j,k≤j→j<l.length→Ag (CX l b k) j=Ag l j
 |0,_,_,_=>rfl
 |k+1,j,h,hj=>by
  unfold CX;split
  ·exact Mb l b k j (by omega) hj
  ·rw[DA (by rw[Dw];exact hj),if_neg (by omega)];exact Mb l b k j (by omega) hj
theorem Jm (l:List Am) (b:Nat) (hb:b<l.length):∀k,Ag (CX l b k) b=Ag l b
 |0=>rfl
 | k+1=>by
  unfold CX;split
  ·exact Jm l b hb k
  ·rename_i h
   rw[DA (by rw[Dw];exact hb)];by_cases e:b=k
   ·subst e;exact absurd rfl h
   ·rw[if_neg e];exact Jm l b hb k
theorem Sa (l:List Am) (b:Nat):∀k,Fr l b k≤k
 |0=>Nat.le_refl _
 |k+1=>by have:=Sa l b k;unfold Fr;split<;>omega
def Kl (B g c M n:Nat) (w:World) (l:List Am) (m:Nat):Prop:=
 ∃F:Nat→Prop,BD F B w (.slice (some ⟨g,0,none⟩) n c) l∧(∀b,F b→B≤b∧b≠M)∧w.heap[M]?=some (.cells #[.slice (some ⟨g,0,none⟩) n c,.int .i64 (m:Int)] 80 (0,0))
theorem XI (l:List Am) (b:Nat) (hb:b<l.length) (g c M B:Nat) (w:World) (hM:Kl B g c M l.length w l 0) (hgM:g≠M) (hBM:B≤M) (hl:l.length≤1000) (hck:∀i,i<l.length→Aj (Ag l i).store=0):
  Calls Tryz.prog 40 #[.pointer (some ⟨M,0,none⟩),.int .i64 (b:Int)] w fun e w'=>e=.returned (.int .i64 (An (Dl l b) l.length))∧Below B w w'∧(An (Dl l b) l.length=0→Kl B g c M l.length w' (CX l b l.length) (Fr l b l.length)):=by
 have Hck:=zh hck;have Hl:=zh hl;obtain⟨n,hn⟩:∃n,n=l.length:=⟨_,rfl⟩;rw[←hn] at hb hM hl⊢;have Hn:=zh hn;obtain⟨F0,hO0,hF0,hM0⟩:=id hM;have hgB:B≤g∧g<w.heap.size:=hO0.block rfl;have hMs:M<w.heap.size:=lt_of_block hM0;have m0:=Aa (j:=0) hM0 rfl;have HM:=zh hM;clear hM hO0 hF0 hM0 hck hn F0;have hb1:=zk b;have hb2:(b:Int)<(n:Int):=by omega
 have HLs:=zh (fun k (h:An (Dl l b) k=0) (hk:k<n) (e:Int) (he:Dl l b k=e) (hne:e≠0)=>(BX (f:=Dl l b) h (by rw[he];exact hne) hk).trans he)
 go_enter Tryz.func40, Tryz.ntmps40
 go_wp2_with fail;go_loopw [15] (fun i wr=>∃k:Nat,k≤n∧i=.int .i64 k∧Hid (An (Dl l b) k=0)∧Hid (Kl B g c M n wr (CX l b k) (Fr l b k)∧Below B w wr∧w.heap.size≤wr.heap.size)) (fun i _=>n-(intOf i).toNat)
 case atStart=>exact⟨0,by omega,rfl,rfl,HM.out,Below.refl _ _,Nat.le_refl _⟩
 obtain⟨k,hk,rfl,Hs,HI⟩:=hrel;clear m0 HM;by_cases hlt:k<n
 case neg=>
  obtain rfl:k=n:=by omega
  have HI2:=zh (And.intro Hs.out HI.out);have hs0:=Hs.out;go_wp2_with fail;go_ret;exact⟨Af HI2.out.1.symm,HI2.out.2.2.1,fun _=>HI2.out.2.1⟩
 obtain⟨⟨F,hO,hF,hMb⟩,hBw,hsw⟩:=HI.out;have HLl:=zh (Dw l b k);have hrk:=Mb l b k k (Nat.le_refl _) (by rw[←Hn.out];exact hlt);have hrb:=Jm l b (by rw[←Hn.out];exact hb) k;have HnT:=zh (show CX l b (k+1)=if(Ag l k).gen=(Ag l b).gen then CX l b k else(CX l b k).set k (Bh (Ag l b) (Ag l k)) from rfl);have HnN:=zh (show Fr l b (k+1)=if(Ag l k).gen=(Ag l b).gen then Fr l b k else Fr l b k+1 from rfl);have HnE:=zh (show Dl l b k=if(Ag l k).gen=(Ag l b).gen then 0 else Bq (Ag l b) (Ag l k) from rfl);have hmn:=Sa l b k;have Hkl:=zh (show k<(CX l b k).length by rw[HLl.out,←Hn.out];exact hlt);obtain⟨a0,n0,cap0,fr,HN0,e0,h1,h2,h3,h4,h5⟩:=(hO.any (by rw[HLl.out];have:=Hl.out;omega)).open;cases e0;obtain⟨b0,off0,e1,_,k0,k1,k2,k3,k4,k5,k6⟩:=h4 (by omega);cases e1;simp only[Nat.zero_add] at k0 k1 k2 k3 k4 k5 k6;have h5k:=h5 k hlt;have h5b:=h5 b hb;rw[hrk] at h5k;rw[hrb] at h5b;generalize CX l b k=L at*;generalize Fr l b k=mn at*;have K0:∀x,Below wr.heap.size wr x→x.cell? ⟨g,k*7,none⟩=some (.slice (fr k).sa (Ag l k).store.length (fr k).sc):=fun x hx=>by have:=k0 k x hlt hx;rw[hrk] at this;exact this
 have D0:∀x,Below wr.heap.size wr x→x.cell? ⟨g,b*7,none⟩=some (.slice (fr b).sa (Ag l b).store.length (fr b).sc):=fun x hx=>by have:=k0 b x hb hx;rw[hrb] at this;exact this
 have K1:∀x,Below wr.heap.size wr x→x.cell? ⟨g,k*7+1,none⟩=some (.slice (fr k).ra (Ag l k).refs.length (fr k).rc):=fun x hx=>by have:=k1 k x hlt hx;rw[hrk] at this;exact this
 have D1:∀x,Below wr.heap.size wr x→x.cell? ⟨g,b*7+1,none⟩=some (.slice (fr b).ra (Ag l b).refs.length (fr b).rc):=fun x hx=>by have:=k1 b x hb hx;rw[hrb] at this;exact this
 have K2:∀x,Below wr.heap.size wr x→x.cell? ⟨g,k*7+2,none⟩=some (.int .i64 (Ag l k).gen):=fun x hx=>by have:=k2 k x hlt hx;rw[hrk] at this;exact this
 have D2:∀x,Below wr.heap.size wr x→x.cell? ⟨g,b*7+2,none⟩=some (.int .i64 (Ag l b).gen):=fun x hx=>by have:=k2 b x hb hx;rw[hrb] at this;exact this
 have K3:∀x,Below wr.heap.size wr x→x.cell? ⟨g,k*7+3,none⟩=some (.int .i64 (Ag l k).phase):=fun x hx=>by have:=k3 k x hlt hx;rw[hrk] at this;exact this
 have D3:∀x,Below wr.heap.size wr x→x.cell? ⟨g,b*7+3,none⟩=some (.int .i64 (Ag l b).phase):=fun x hx=>by have:=k3 b x hb hx;rw[hrb] at this;exact this
 have K4:∀x,Below wr.heap.size wr x→x.cell? ⟨g,k*7+4,none⟩=some (.slice (fr k).oa (Ag l k).pend.objects.length (fr k).oc):=fun x hx=>by have:=k4 k x hlt hx;rw[hrk] at this;exact this
 have D4:∀x,Below wr.heap.size wr x→x.cell? ⟨g,b*7+4,none⟩=some (.slice (fr b).oa (Ag l b).pend.objects.length (fr b).oc):=fun x hx=>by have:=k4 b x hb hx;rw[hrb] at this;exact this
 have K5:∀x,Below wr.heap.size wr x→x.cell? ⟨g,k*7+5,none⟩=some (.slice (fr k).ua (Ag l k).pend.updates.length (fr k).uc):=fun x hx=>by have:=k5 k x hlt hx;rw[hrk] at this;exact this
 have D5:∀x,Below wr.heap.size wr x→x.cell? ⟨g,b*7+5,none⟩=some (.slice (fr b).ua (Ag l b).pend.updates.length (fr b).uc):=fun x hx=>by have:=k5 b x hb hx;rw[hrb] at this;exact this
 have K6:∀x,Below wr.heap.size wr x→x.cell? ⟨g,k*7+6,none⟩=some (.bool (Ag l k).pend.force):=fun x hx=>by have:=k6 k x hlt hx;rw[hrk] at this;exact this
 have D6:∀x,Below wr.heap.size wr x→x.cell? ⟨g,b*7+6,none⟩=some (.bool (Ag l b).pend.force):=fun x hx=>by have:=k6 b x hb hx;rw[hrb] at this;exact this
 have M0:∀x,Below wr.heap.size wr x→x.cell? ⟨M,0,none⟩=some (.slice (some ⟨g,0,none⟩) n c):=fun x hx=>Ae hx (Aa (j:=0) hMb rfl)
 clear k0 k1 k2 k3 k4 k5 k6 h4 h5 hrk hrb;obtain⟨wo,rfl⟩:∃wo:World,wo=wr:=⟨_,rfl⟩;obtain⟨w1,hw1⟩:∃w1,w1=wo.alloc (.cells #[.slice (fr k).sa (Ag l k).store.length (fr k).sc,.slice (fr k).ra (Ag l k).refs.length (fr k).rc,.int .i64 (Ag l k).gen,.int .i64 (Ag l k).phase,.slice (fr k).oa (Ag l k).pend.objects.length (fr k).oc,.slice (fr k).ua (Ag l k).pend.updates.length (fr k).uc,.bool (Ag l k).pend.force] 34):=⟨_,rfl⟩;have hs1:w1.heap.size=wo.heap.size+1:=by rw[hw1];simp
 have hbw1:Below wo.heap.size wo w1:=by rw[hw1];exact(Below.refl _ _).alloc (Nat.le_refl _) _
 have hg1:w1.heap[wo.heap.size]?=some (.cells #[.slice (fr k).sa (Ag l k).store.length (fr k).sc,.slice (fr k).ra (Ag l k).refs.length (fr k).rc,.int .i64 (Ag l k).gen,.int .i64 (Ag l k).phase,.slice (fr k).oa (Ag l k).pend.objects.length (fr k).oc,.slice (fr k).ua (Ag l k).pend.updates.length (fr k).uc,.bool (Ag l k).pend.force] 34 (0,0)):=by rw[hw1];exact heap_alloc_new wo _
 have hQ:=Ib wo w1 (wo.heap.size+1) (by omega) (by omega) hbw1;obtain⟨Q,hQe⟩:∃Q:World→Prop,Q=fun x=>Below (wo.heap.size+1) w1 x:=⟨_,rfl⟩
 rw[←hQe] at hQ;have hQb:=hQ.below;have hQn:=hQ.next
 have hQ1:In Q w1:=by rw[hQe];exact Below.refl _ _
 have HQu:=zh (fun x y (T:Nat→Prop) (hx:In Q x) (hu:AK T x y) (hT:∀b,T b→wo.heap.size+1≤b)=>show In Q y by rw[hQe] at hx⊢;exact Below.trans (hx:Below _ _ _) (hu.below (by have:=Below.size (hx:Below _ _ _);omega) hT));have HBx:=zh (fun x (hx:In Q x)=>show wo.heap.size+1≤x.heap.size∧x.heap[wo.heap.size]?=some (.cells #[.slice (fr k).sa (Ag l k).store.length (fr k).sc,.slice (fr k).ra (Ag l k).refs.length (fr k).rc,.int .i64 (Ag l k).gen,.int .i64 (Ag l k).phase,.slice (fr k).oa (Ag l k).pend.objects.length (fr k).oc,.slice (fr k).ua (Ag l k).pend.updates.length (fr k).uc,.bool (Ag l k).pend.force] 34 (0,0)) by rw[hQe] at hx;have h:=(hx:Below _ _ _);exact⟨by have:=h.size;omega,(h.block _ (by omega)).trans hg1⟩);have HSw:=zh hsw;have HBw:=zh hBw;have HO:=zh hO;have HF:=zh hF;have HMb:=zh hMb;have y2:=fun x (hx:In Q x)=>Aa (j:=2) (HBx.out x hx).2 rfl
 have E2:=fun x (hx:In Q x)=>D2 x (hQb _ hx)
 have N0:=fun x (hx:In Q x)=>M0 x (hQb _ hx)
 have HK:Hid (∀x,In Q x→x.cell? ⟨wo.heap.size,0,none⟩=some (.slice (fr k).sa (Ag l k).store.length (fr k).sc)∧x.cell? ⟨wo.heap.size,1,none⟩=some (.slice (fr k).ra (Ag l k).refs.length (fr k).rc)∧x.cell? ⟨wo.heap.size,2,none⟩=some (.int .i64 (Ag l k).gen)∧x.cell? ⟨wo.heap.size,3,none⟩=some (.int .i64 (Ag l k).phase)∧x.cell? ⟨wo.heap.size,4,none⟩=some (.slice (fr k).oa (Ag l k).pend.objects.length (fr k).oc)∧x.cell? ⟨wo.heap.size,5,none⟩=some (.slice (fr k).ua (Ag l k).pend.updates.length (fr k).uc)∧x.cell? ⟨wo.heap.size,6,none⟩=some (.bool (Ag l k).pend.force)):=fun x hx=>⟨Aa (j:=0) (HBx.out x hx).2 rfl,Aa (j:=1) (HBx.out x hx).2 rfl,Aa (j:=2) (HBx.out x hx).2 rfl,Aa (j:=3) (HBx.out x hx).2 rfl,Aa (j:=4) (HBx.out x hx).2 rfl,Aa (j:=5) (HBx.out x hx).2 rfl,Aa (j:=6) (HBx.out x hx).2 rfl⟩
 have HD:Hid (∀x,In Q x→x.cell? ⟨g,b*7,none⟩=some (.slice (fr b).sa (Ag l b).store.length (fr b).sc)∧x.cell? ⟨g,b*7+1,none⟩=some (.slice (fr b).ra (Ag l b).refs.length (fr b).rc)∧x.cell? ⟨g,b*7+2,none⟩=some (.int .i64 (Ag l b).gen)∧x.cell? ⟨g,b*7+3,none⟩=some (.int .i64 (Ag l b).phase)∧x.cell? ⟨g,b*7+4,none⟩=some (.slice (fr b).oa (Ag l b).pend.objects.length (fr b).oc)∧x.cell? ⟨g,b*7+5,none⟩=some (.slice (fr b).ua (Ag l b).pend.updates.length (fr b).uc)∧x.cell? ⟨g,b*7+6,none⟩=some (.bool (Ag l b).pend.force)):=fun x hx=>⟨D0 x (hQb _ hx),D1 x (hQb _ hx),D2 x (hQb _ hx),D3 x (hQb _ hx),D4 x (hQb _ hx),D5 x (hQb _ hx),D6 x (hQb _ hx)⟩
 have HR:=zh (fun x (hx:In Q x)=>Gy (Ag l b) (Ag l k) _ _ _ _ _ _ _ _ _ _ x (h5b.below (hQb _ hx)) (h5k.below (hQb _ hx)) ((BB (Hck.out b (by rw[←Hn.out];exact hb))).1) (Hck.out k (by rw[←Hn.out];exact hlt)));simp only[AO] at HR;have x0:=K0 wo (Below.refl _ _);have x1:=K1 wo (Below.refl _ _);have x2:=K2 wo (Below.refl _ _);have x3:=K3 wo (Below.refl _ _);have x4:=K4 wo (Below.refl _ _);have x5:=K5 wo (Below.refl _ _);have x6:=K6 wo (Below.refl _ _);have HKc:=zh (fun x (hx:In Q x)=>show x.cell? ⟨g,k*7,none⟩=some (.slice (fr k).sa (Ag l k).store.length (fr k).sc)∧x.cell? ⟨g,k*7+1,none⟩=some (.slice (fr k).ra (Ag l k).refs.length (fr k).rc)∧x.cell? ⟨g,k*7+2,none⟩=some (.int .i64 (Ag l k).gen)∧x.cell? ⟨g,k*7+3,none⟩=some (.int .i64 (Ag l k).phase)∧x.cell? ⟨g,k*7+4,none⟩=some (.slice (fr k).oa (Ag l k).pend.objects.length (fr k).oc)∧x.cell? ⟨g,k*7+5,none⟩=some (.slice (fr k).ua (Ag l k).pend.updates.length (fr k).uc)∧x.cell? ⟨g,k*7+6,none⟩=some (.bool (Ag l k).pend.force) from⟨K0 x (hQb _ hx),K1 x (hQb _ hx),K2 x (hQb _ hx),K3 x (hQb _ hx),K4 x (hQb _ hx),K5 x (hQb _ hx),K6 x (hQb _ hx)⟩);clear K0 K1 K2 K3 K4 K5 K6 D0 D1 D2 D3 D4 D5 D6 M0 h5k h5b hO hF hMb hBw hQe hg1 hbw1 hs1;have hi1:=zk k;have hi2:(k:Int)<(n:Int):=by omega
 have Hw1:=zh hw1;by_cases hg:(Ag l k).gen=(Ag l b).gen
 case pos=>
  rw[if_pos hg] at HnT HnN HnE;have hq:((Ag l k).gen==(Ag l b).gen)=true:=by simpa using hg
  have Hs2:=zh (show An (Dl l b) (k+1)=0 from Ay Hs.out HnE.out);clear hg hw1 HK HD HKc;go_wp2_with fail;rw[←Hw1.out];go_quiet (fail);generalize hw2:w1.drewN _=w2 at*;have hQ2:In Q w2:=by rw[←hw2];exact hQ.drewN _ _ hQ1
  clear hw2;have HI2:=zh (show Kl B g c M n w2 (CX l b (k+1)) (Fr l b (k+1))∧Below B w w2∧w.heap.size≤w2.heap.size from by
   rw[HnT.out,HnN.out];have hb:=hQb _ hQ2;have hz:=HSw.out;exact⟨⟨F,HO.out.below hb,HF.out,(hb.block _ (by omega)).trans HMb.out⟩,HBw.out.trans (hb.mono (by omega)),Nat.le_trans hz hb.size⟩)
  clear HO HF HMb HR HI;go_wp2_with fail;go_roundw
  case rel=>exact⟨k+1,by omega,by go_num,Hs2.out,HI2.out⟩
  case measure=>simp[intOf];omega
 rw[if_neg hg] at HnT HnN HnE;have hq:((Ag l k).gen==(Ag l b).gen)=false:=by simpa using hg
 clear hg hw1;go_wp2_with fail;rw[←Hw1.out];go_quiet (fail);generalize hw2:w1.drewN _=w2 at*;have hQ2:In Q w2:=by rw[←hw2];exact hQ.drewN _ _ hQ1
 clear hw2 y2 E2 N0 hq hQ1 Hw1;clear x0 x1 x2 x3 x4 x5 x6;go_wp2_with fail;refine rh (In Q) ?_;have hC0:=hQ.drew _ hQ2;generalize w2.drew=x0 at hC0⊢;clear hQ2;have HM0:=zh (fun x (hx:In Q x)=>show x.cell? ⟨M,0,none⟩=some (.slice (some ⟨g,0,none⟩) n c) from Ae (hQb _ hx) (Aa (j:=0) HMb.out rfl));refine tk 0 (.pointer (some ⟨M,0,none⟩)) (fun w hSw=>?_) hC0 ?_
 ·go_simp
 simp only[tkS];refine tk 1 (.pointer (some ⟨M,0,none⟩)) (fun w hSw=>?_) hC0 ?_
 ·go_simp
 simp only[tkS];refine tk 2 (.pointer (some ⟨M,0,none⟩)) (fun w hSw=>?_) hC0 ?_
 ·go_simp
 simp only[tkS];refine tk 3 (.pointer (some ⟨M,0,none⟩)) (fun w hSw=>?_) hC0 ?_
 ·go_simp
 simp only[tkS];refine tk 4 (.slice (some ⟨g,0,none⟩) n c) (fun w hSw=>?_) hC0 ?_
 ·have yy:=HM0.out _ hSw;go_simp
 simp only[tkS];refine tk 5 (.int .i64 (b:Int)) (fun w hSw=>?_) hC0 ?_
 ·go_simp
 simp only[tkS];refine tk 6 (.pointer (some ⟨g,b*7,none⟩)) (fun w hSw=>?_) hC0 ?_
 ·go_simp
 simp only[tkS];refine tk 7 (.agg #[.slice (fr b).sa (Ag l b).store.length (fr b).sc,.slice (fr b).ra (Ag l b).refs.length (fr b).rc,.int .i64 (Ag l b).gen,.int .i64 (Ag l b).phase,.slice (fr b).oa (Ag l b).pend.objects.length (fr b).oc,.slice (fr b).ua (Ag l b).pend.updates.length (fr b).uc,.bool (Ag l b).pend.force]) (fun w hSw=>?_) hC0 ?_
 ·obtain⟨y0,y1,y2,y3,y4,y5,y6⟩:=HD.out _ hSw;go_simp
 simp only[tkS];refine tk 8 (.agg #[.slice (fr k).sa (Ag l k).store.length (fr k).sc,.slice (fr k).ra (Ag l k).refs.length (fr k).rc,.int .i64 (Ag l k).gen,.int .i64 (Ag l k).phase,.slice (fr k).oa (Ag l k).pend.objects.length (fr k).oc,.slice (fr k).ua (Ag l k).pend.updates.length (fr k).uc,.bool (Ag l k).pend.force]) (fun w hSw=>?_) hC0 ?_
 ·obtain⟨y0,y1,y2,y3,y4,y5,y6⟩:=HK.out _ hSw;go_simp
 simp only[tkS];clear HD HK;generalize hrr:Bh (Ag l b) (Ag l k)=rr at*;generalize hre:Bq (Ag l b) (Ag l k)=re at*;refine wpAnyH_all (rs:=[9,13]) (by kernel_rfl) (by simp) (fun j hj=>?_);rcases List.mem_cons.1 hj with rfl|hj
 ·refine Or.inl ?_
  go_wp2_with fail;refine(HR.out _ hC0).mono ?_;rintro e x1 ⟨sv1,rv1,ov1,uv1,rfl,hv,hb1⟩;have hC1:=hQn _ _ hC0 hb1;obtain⟨AU,AX,rfl⟩:=hv.store.vshape;obtain⟨⟨ra1,rc1⟩,rfl⟩:=hv.refs.shape;obtain⟨oa1,oc1,rfl⟩:=hv.objs.vshape;obtain⟨⟨ua1,uc1⟩,rfl⟩:=hv.upds.shape;have hxs:=hb1.size;have hx0:=(HBx.out _ hC0).1;have Hv:=zh hv.lt;clear hv;simp only[AO];go_simp;refine tk 10 (.tuple #[.agg #[.slice AU rr.store.length AX,.slice ra1 rr.refs.length rc1,.int .i64 rr.gen,.int .i64 rr.phase,.slice oa1 rr.pend.objects.length oc1,.slice ua1 rr.pend.updates.length uc1,.bool rr.pend.force],.int .i64 re]) (fun w hSw=>?_) hC1 ?_
  ·go_simp
  simp only[tkS];refine tk 11 (.agg #[.slice AU rr.store.length AX,.slice ra1 rr.refs.length rc1,.int .i64 rr.gen,.int .i64 rr.phase,.slice oa1 rr.pend.objects.length oc1,.slice ua1 rr.pend.updates.length uc1,.bool rr.pend.force]) (fun w hSw=>?_) hC1 ?_
  ·go_simp
  simp only[tkS];refine tk 12 (.int .i64 re) (fun w hSw=>?_) hC1 ?_
  ·go_simp
  simp only[tkS];refine al1 13 ?_;refine Or.inl ?_;have hC2:=hQ.alloc _ (.cells Ft 34) hC1;simp only[Ft] at hC2;go_simp;have hDb:(x1.alloc (.cells #[.slice none 0 0,.slice none 0 0,.int .i64 0,.int .i64 0,.slice none 0 0,.slice none 0 0,.bool false] 34)).heap[x1.heap.size]?=some (.cells Ft 34 (0,0)):=heap_alloc_new x1 _;have Hv2:=zh ((Hv.out.below ((Below.refl _ _).alloc (Nat.le_refl _) (.cells #[.slice none 0 0,.slice none 0 0,.int .i64 0,.int .i64 0,.slice none 0 0,.slice none 0 0,.bool false] 34))).weaken (S':=fun b=>wo.heap.size+1≤b∧b≠x1.heap.size) fun b hb=>⟨by omega,by omega⟩);have hDge:wo.heap.size+1≤x1.heap.size:=by omega
  generalize hDn:x1.heap.size=D at*;generalize x1.alloc (.cells #[.slice none 0 0,.slice none 0 0,.int .i64 0,.int .i64 0,.slice none 0 0,.slice none 0 0,.bool false] 34)=x2 at*;clear Hv hxs hb1;have hblk:=hDb;simp only[Ft] at hblk;obtain⟨g0,g1,g2,g3,g4,g5,g6⟩:=bc7 hblk;obtain⟨f0,f1,f2,f3,f4,f5,f6⟩:=bf7 hblk;refine al1 14 ?_;refine Or.inl ?_;have Hb7:=zh (AZ (v0:=.slice AU rr.store.length AX) (v1:=.slice ra1 rr.refs.length rc1) (v2:=.int .i64 rr.gen) (v3:=.int .i64 rr.phase) (v4:=.slice oa1 rr.pend.objects.length oc1) (v5:=.slice ua1 rr.pend.updates.length uc1) (v6:=.bool rr.pend.force) hblk);have Hu7:=zh (AM D (.slice AU rr.store.length AX) (.slice ra1 rr.refs.length rc1) (.int .i64 rr.gen) (.int .i64 rr.phase) (.slice oa1 rr.pend.objects.length oc1) (.slice ua1 rr.pend.updates.length uc1) (.bool rr.pend.force) x2);have hQ7:=HQu.out _ _ _ hC2 Hu7.out (fun b hb=>by omega);go_wp2_with fail;refine⟨hQ7,?_⟩;change wpAnyH _ _ _ _ _ _ _ _ (Bg D (.slice AU rr.store.length AX) (.slice ra1 rr.refs.length rc1) (.int .i64 rr.gen) (.int .i64 rr.phase) (.slice oa1 rr.pend.objects.length oc1) (.slice ua1 rr.pend.updates.length uc1) (.bool rr.pend.force) x2);have hb7:=Hb7.out;have hu7:=Hu7.out;clear Hb7 Hu7;generalize Bg D (.slice AU rr.store.length AX) (.slice ra1 rr.refs.length rc1) (.int .i64 rr.gen) (.int .i64 rr.phase) (.slice oa1 rr.pend.objects.length oc1) (.slice ua1 rr.pend.updates.length uc1) (.bool rr.pend.force) x2=w7 at*;have Hv7:=zh (Hv2.out.upd hu7 (fun b hb e=>hb.2 e))
  clear g0 g1 g2 g3 g4 g5 g6 f0 f1 f2 f3 f4 f5 f6 hblk hu7;refine al1 15 ?_;refine Or.inl ?_;go_wp2_with fail
  first|refine⟨hQ7,?_⟩|skip
  refine wpAnyH_done (by kernel_rfl) ?_ _;by_cases hz:re=0
  case neg=>
   have HE:=zh (HLs.out k Hs.out hlt re HnE.out hz);have hq2:(re !=0)=true:=by simpa using hz
   clear hz;have HB7:=zh (HBw.out.trans ((hQb _ hQ7).mono (by have:=HSw.out;omega)));go_wp2_with fail;go_ret;exact⟨Af HE.out.symm,HB7.out,fun h=>absurd (HE.out.symm.trans h) (by simpa using hq2)⟩
  subst hz;have Hs2:=zh (show An (Dl l b) (k+1)=0 from Ay Hs.out HnE.out);go_wp2_with fail;have hDs:D<w7.heap.size:=lt_of_block hb7;obtain⟨T,hT,hT1,hTall⟩:=Av w7;have hTQ:∀x,In T x→In Q x:=fun x hx=>hQn _ _ hQ7 (hT.below _ hx)
  have HVT:=zh (fun x (hx:In T x)=>show x.cell? ⟨D,0,none⟩=some (.slice AU rr.store.length AX)∧x.cell? ⟨D,1,none⟩=some (.slice ra1 rr.refs.length rc1)∧x.cell? ⟨D,2,none⟩=some (.int .i64 rr.gen)∧x.cell? ⟨D,3,none⟩=some (.int .i64 rr.phase)∧x.cell? ⟨D,4,none⟩=some (.slice oa1 rr.pend.objects.length oc1)∧x.cell? ⟨D,5,none⟩=some (.slice ua1 rr.pend.updates.length uc1)∧x.cell? ⟨D,6,none⟩=some (.bool rr.pend.force) from⟨Ae (hT.below _ hx) (Aa (j:=0) hb7 rfl),Ae (hT.below _ hx) (Aa (j:=1) hb7 rfl),Ae (hT.below _ hx) (Aa (j:=2) hb7 rfl),Ae (hT.below _ hx) (Aa (j:=3) hb7 rfl),Ae (hT.below _ hx) (Aa (j:=4) hb7 rfl),Ae (hT.below _ hx) (Aa (j:=5) hb7 rfl),Ae (hT.below _ hx) (Aa (j:=6) hb7 rfl)⟩);have hM8:=fun x (hx:In T x)=>HM0.out x (hTQ x hx)
  refine rh (fun x:World=>x.cell? ⟨M,0,none⟩=some (.slice (some ⟨g,0,none⟩) n c)∧x.cell? ⟨D,0,none⟩=some (.slice AU rr.store.length AX)∧x.cell? ⟨D,1,none⟩=some (.slice ra1 rr.refs.length rc1)∧x.cell? ⟨D,2,none⟩=some (.int .i64 rr.gen)∧x.cell? ⟨D,3,none⟩=some (.int .i64 rr.phase)∧x.cell? ⟨D,4,none⟩=some (.slice oa1 rr.pend.objects.length oc1)∧x.cell? ⟨D,5,none⟩=some (.slice ua1 rr.pend.updates.length uc1)∧x.cell? ⟨D,6,none⟩=some (.bool rr.pend.force)) ?_;have hT0:=hT.drew _ hT1;generalize w7.drew=y0 at hT0⊢;have hS8:(fun x:World=>x.cell? ⟨M,0,none⟩=some (.slice (some ⟨g,0,none⟩) n c)∧x.cell? ⟨D,0,none⟩=some (.slice AU rr.store.length AX)∧x.cell? ⟨D,1,none⟩=some (.slice ra1 rr.refs.length rc1)∧x.cell? ⟨D,2,none⟩=some (.int .i64 rr.gen)∧x.cell? ⟨D,3,none⟩=some (.int .i64 rr.phase)∧x.cell? ⟨D,4,none⟩=some (.slice oa1 rr.pend.objects.length oc1)∧x.cell? ⟨D,5,none⟩=some (.slice ua1 rr.pend.updates.length uc1)∧x.cell? ⟨D,6,none⟩=some (.bool rr.pend.force)) y0:=⟨hM8 _ hT0,HVT.out _ hT0⟩;refine tk 0 (.pointer (some ⟨M,0,none⟩)) (fun w hSw=>?_) hS8 ?_
  ·go_simp
  simp only[tkS];refine tk 1 (.pointer (some ⟨M,0,none⟩)) (fun w hSw=>?_) hS8 ?_
  ·go_simp
  simp only[tkS];refine tk 2 (.pointer (some ⟨M,0,none⟩)) (fun w hSw=>?_) hS8 ?_
  ·go_simp
  simp only[tkS];refine tk 3 (.pointer (some ⟨M,0,none⟩)) (fun w hSw=>?_) hS8 ?_
  ·go_simp
  simp only[tkS];refine tk 4 (.slice (some ⟨g,0,none⟩) n c) (fun w hSw=>?_) hS8 ?_
  ·have yy:=hSw.1;go_simp
  simp only[tkS];refine tk 5 (.int .i64 (k:Int)) (fun w hSw=>?_) hS8 ?_
  ·go_simp
  simp only[tkS];refine tk 6 (.agg #[.slice AU rr.store.length AX,.slice ra1 rr.refs.length rc1,.int .i64 rr.gen,.int .i64 rr.phase,.slice oa1 rr.pend.objects.length oc1,.slice ua1 rr.pend.updates.length uc1,.bool rr.pend.force]) (fun w hSw=>?_) hS8 ?_
  ·obtain⟨_,u0,u1,u2,u3,u4,u5,u6⟩:=hSw;go_simp
  simp only[tkS];refine tk 7 (.pointer (some ⟨g,k*7,none⟩)) (fun w hSw=>?_) hS8 ?_
  ·go_simp
  simp only[tkS];refine al1 8 ?_;refine Or.inl ?_;obtain⟨z0,z1,z2,z3,z4,z5,z6⟩:=HKc.out _ (hTQ _ hT0);have hOy:=HO.out.below (hQb _ (hTQ _ hT0));have f0:=hOy.free (k*7);have f1:=hOy.free (k*7+1);have f2:=hOy.free (k*7+2);have f3:=hOy.free (k*7+3);have f4:=hOy.free (k*7+4);have f5:=hOy.free (k*7+5);have f6:=hOy.free (k*7+6);have hset:=hOy.set (i:=k) (r:=rr) (x:=⟨.slice AU rr.store.length AX,.slice ra1 rr.refs.length rc1,.slice oa1 rr.pend.objects.length oc1,.slice ua1 rr.pend.updates.length uc1⟩) Hkl.out (S2:=fun b=>wo.heap.size+1≤b∧b<y0.heap.size) (Ax.weaken (Ax.lt (Hv7.out.below (hT.below _ hT0))) fun b hb=>⟨hb.1.1,hb.2⟩) (fun b hb=>⟨hb.2,fun e=>by have:=HSw.out;omega⟩);have Hset:=zh hset;have hMy:y0.heap[M]?=some (.cells #[.slice (some ⟨g,0,none⟩) n c,.int .i64 (mn:Int)] 80 (0,0)):=((hQb _ (hTQ _ hT0)).block _ (by have:=HSw.out;omega)).trans HMb.out;have HMy:=zh hMy;have hBy:=HBw.out.trans ((hQb _ (hTQ _ hT0)).mono (by have:=HSw.out;omega));have HBy:=zh hBy;have hys:=(hQb _ (hTQ _ hT0)).size;have HS8:=zh hS8;clear hset hOy hMy hBy hM8;go_wp2_with fail
  first|refine⟨by kernel_rfl,?_⟩|refine⟨HS8.out,by kernel_rfl,?_⟩
  change Exit.then _ _ _ _ (y0.setCells g (k*7) (Ba rr ⟨.slice AU rr.store.length AX,.slice ra1 rr.refs.length rc1,.slice oa1 rr.pend.objects.length oc1,.slice ua1 rr.pend.updates.length uc1⟩))
  have hM9:=(Hset.out.2).blk HMy.out (fun e=>hgM e.symm);have hB9:=HBy.out.trans (Hset.out.2.below (B:=B) (by have:=HSw.out;omega) (fun b hb=>by omega));have hO9:=Hset.out.1;have hz9:=Hset.out.2.size;clear Hset HMy HBy z0 z1 z2 z3 z4 z5 z6 f0 f1 f2 f3 f4 f5 f6;generalize y0.setCells g (k*7) (Ba rr ⟨.slice AU rr.store.length AX,.slice ra1 rr.refs.length rc1,.slice oa1 rr.pend.objects.length oc1,.slice ua1 rr.pend.updates.length uc1⟩)=w9 at*;have j1:=Aa (j:=1) hM9 rfl;have j2:=Ad (j:=1) hM9;have hw2:=Be (n:=(mn:Int)+1) (by have:=Hl.out;have:=Hn.out;omega);have hu10:=su M 1 w9 (.int .i64 ((mn:Int)+1));have hM10:(w9.setCell ⟨M,1,none⟩ (.int .i64 ((mn:Int)+1))).heap[M]?=some (.cells #[.slice (some ⟨g,0,none⟩) n c,.int .i64 ((mn+1:Nat):Int)] 80 (0,0)):=Ah (j:=1) hM9 (.int .i64 ((mn:Int)+1));have HI2:=zh (show Kl B g c M n (w9.setCell ⟨M,1,none⟩ (.int .i64 ((mn:Int)+1))) (CX l b (k+1)) (Fr l b (k+1))∧Below B w (w9.setCell ⟨M,1,none⟩ (.int .i64 ((mn:Int)+1)))∧w.heap.size≤(w9.setCell ⟨M,1,none⟩ (.int .i64 ((mn:Int)+1))).heap.size from by
   rw[HnT.out,HnN.out];have hz:=HSw.out;have hFM:∀b,(F b∨(wo.heap.size+1≤b∧b<y0.heap.size))→B≤b∧b≠M:=fun b hb=>by rcases hb with hb|hb;exact HF.out b hb;exact⟨by omega,by omega⟩
   exact⟨⟨_,hO9.upd hu10 (fun b hb e=>(hFM b hb).2 e) (fun q hq e=>by subst e;cases hq;exact hgM rfl),hFM,hM10⟩,hB9.trans (hu10.below (B:=B) (by omega) (fun b hb=>by omega)),by have:=hu10.size;omega⟩)
  clear hO9 hM9 hB9 hM10 hu10 HO HF HMb HR HI HVT HKc;go_wp2_with fail;go_roundw
  case rel=>exact⟨k+1,by omega,by go_num,Hs2.out,HI2.out⟩
  case measure=>simp[intOf];omega
 ·obtain rfl:j=13:=by simpa using hj
  refine Or.inl ?_;have hC2:=hQ.alloc _ (.cells Ft 34) hC0;simp only[Ft] at hC2;go_simp;have hDb:(x0.alloc (.cells #[.slice none 0 0,.slice none 0 0,.int .i64 0,.int .i64 0,.slice none 0 0,.slice none 0 0,.bool false] 34)).heap[x0.heap.size]?=some (.cells Ft 34 (0,0)):=heap_alloc_new x0 _;have hDge:wo.heap.size+1≤x0.heap.size:=(HBx.out _ hC0).1;have hDlt:x0.heap.size<(x0.alloc (.cells #[.slice none 0 0,.slice none 0 0,.int .i64 0,.int .i64 0,.slice none 0 0,.slice none 0 0,.bool false] 34)).heap.size:=by simp
  generalize hDn:x0.heap.size=D at*;generalize x0.alloc (.cells #[.slice none 0 0,.slice none 0 0,.int .i64 0,.int .i64 0,.slice none 0 0,.slice none 0 0,.bool false] 34)=x2 at*;refine al1 9 ?_;refine Or.inl ?_;go_wp2_with fail;refine(HR.out _ hC2).mono ?_;rintro e x1 ⟨sv1,rv1,ov1,uv1,rfl,hv,hb1⟩;have hC1:=hQn _ _ hC2 hb1;obtain⟨AU,AX,rfl⟩:=hv.store.vshape;obtain⟨⟨ra1,rc1⟩,rfl⟩:=hv.refs.shape;obtain⟨oa1,oc1,rfl⟩:=hv.objs.vshape;obtain⟨⟨ua1,uc1⟩,rfl⟩:=hv.upds.shape;have hxs:=hb1.size;have hx0:=(HBx.out _ hC2).1;have Hv:=zh hv.lt;clear hv;simp only[AO];go_simp;refine tk 10 (.tuple #[.agg #[.slice AU rr.store.length AX,.slice ra1 rr.refs.length rc1,.int .i64 rr.gen,.int .i64 rr.phase,.slice oa1 rr.pend.objects.length oc1,.slice ua1 rr.pend.updates.length uc1,.bool rr.pend.force],.int .i64 re]) (fun w hSw=>?_) hC1 ?_
  ·go_simp
  simp only[tkS];refine tk 11 (.agg #[.slice AU rr.store.length AX,.slice ra1 rr.refs.length rc1,.int .i64 rr.gen,.int .i64 rr.phase,.slice oa1 rr.pend.objects.length oc1,.slice ua1 rr.pend.updates.length uc1,.bool rr.pend.force]) (fun w hSw=>?_) hC1 ?_
  ·go_simp
  simp only[tkS];refine tk 12 (.int .i64 re) (fun w hSw=>?_) hC1 ?_
  ·go_simp
  simp only[tkS];replace hDb:=(hb1.block _ hDlt).trans hDb;have Hv2:=zh (Hv.out.weaken (S':=fun b=>wo.heap.size+1≤b∧b≠D) fun b hb=>⟨by omega,by omega⟩);clear Hv hb1;have hblk:=hDb;simp only[Ft] at hblk;obtain⟨g0,g1,g2,g3,g4,g5,g6⟩:=bc7 hblk;obtain⟨f0,f1,f2,f3,f4,f5,f6⟩:=bf7 hblk;refine al1 14 ?_;refine Or.inl ?_;have Hb7:=zh (AZ (v0:=.slice AU rr.store.length AX) (v1:=.slice ra1 rr.refs.length rc1) (v2:=.int .i64 rr.gen) (v3:=.int .i64 rr.phase) (v4:=.slice oa1 rr.pend.objects.length oc1) (v5:=.slice ua1 rr.pend.updates.length uc1) (v6:=.bool rr.pend.force) hblk);have Hu7:=zh (AM D (.slice AU rr.store.length AX) (.slice ra1 rr.refs.length rc1) (.int .i64 rr.gen) (.int .i64 rr.phase) (.slice oa1 rr.pend.objects.length oc1) (.slice ua1 rr.pend.updates.length uc1) (.bool rr.pend.force) x1);have hQ7:=HQu.out _ _ _ hC1 Hu7.out (fun b hb=>by omega);go_wp2_with fail;refine⟨hQ7,?_⟩;change wpAnyH _ _ _ _ _ _ _ _ (Bg D (.slice AU rr.store.length AX) (.slice ra1 rr.refs.length rc1) (.int .i64 rr.gen) (.int .i64 rr.phase) (.slice oa1 rr.pend.objects.length oc1) (.slice ua1 rr.pend.updates.length uc1) (.bool rr.pend.force) x1);have hb7:=Hb7.out;have hu7:=Hu7.out;clear Hb7 Hu7;generalize Bg D (.slice AU rr.store.length AX) (.slice ra1 rr.refs.length rc1) (.int .i64 rr.gen) (.int .i64 rr.phase) (.slice oa1 rr.pend.objects.length oc1) (.slice ua1 rr.pend.updates.length uc1) (.bool rr.pend.force) x1=w7 at*;have Hv7:=zh (Hv2.out.upd hu7 (fun b hb e=>hb.2 e));clear g0 g1 g2 g3 g4 g5 g6 f0 f1 f2 f3 f4 f5 f6 hblk hu7
  refine al1 15 ?_;refine Or.inl ?_;go_wp2_with fail
  first|refine⟨hQ7,?_⟩|skip
  refine wpAnyH_done (by kernel_rfl) ?_ _;by_cases hz:re=0
  case neg=>
   have HE:=zh (HLs.out k Hs.out hlt re HnE.out hz);have hq2:(re !=0)=true:=by simpa using hz
   clear hz;have HB7:=zh (HBw.out.trans ((hQb _ hQ7).mono (by have:=HSw.out;omega)));go_wp2_with fail;go_ret;exact⟨Af HE.out.symm,HB7.out,fun h=>absurd (HE.out.symm.trans h) (by simpa using hq2)⟩
  subst hz;have Hs2:=zh (show An (Dl l b) (k+1)=0 from Ay Hs.out HnE.out);go_wp2_with fail;have hDs:D<w7.heap.size:=lt_of_block hb7;obtain⟨T,hT,hT1,hTall⟩:=Av w7;have hTQ:∀x,In T x→In Q x:=fun x hx=>hQn _ _ hQ7 (hT.below _ hx)
  have HVT:=zh (fun x (hx:In T x)=>show x.cell? ⟨D,0,none⟩=some (.slice AU rr.store.length AX)∧x.cell? ⟨D,1,none⟩=some (.slice ra1 rr.refs.length rc1)∧x.cell? ⟨D,2,none⟩=some (.int .i64 rr.gen)∧x.cell? ⟨D,3,none⟩=some (.int .i64 rr.phase)∧x.cell? ⟨D,4,none⟩=some (.slice oa1 rr.pend.objects.length oc1)∧x.cell? ⟨D,5,none⟩=some (.slice ua1 rr.pend.updates.length uc1)∧x.cell? ⟨D,6,none⟩=some (.bool rr.pend.force) from⟨Ae (hT.below _ hx) (Aa (j:=0) hb7 rfl),Ae (hT.below _ hx) (Aa (j:=1) hb7 rfl),Ae (hT.below _ hx) (Aa (j:=2) hb7 rfl),Ae (hT.below _ hx) (Aa (j:=3) hb7 rfl),Ae (hT.below _ hx) (Aa (j:=4) hb7 rfl),Ae (hT.below _ hx) (Aa (j:=5) hb7 rfl),Ae (hT.below _ hx) (Aa (j:=6) hb7 rfl)⟩);have hM8:=fun x (hx:In T x)=>HM0.out x (hTQ x hx)
  refine rh (fun x:World=>x.cell? ⟨M,0,none⟩=some (.slice (some ⟨g,0,none⟩) n c)∧x.cell? ⟨D,0,none⟩=some (.slice AU rr.store.length AX)∧x.cell? ⟨D,1,none⟩=some (.slice ra1 rr.refs.length rc1)∧x.cell? ⟨D,2,none⟩=some (.int .i64 rr.gen)∧x.cell? ⟨D,3,none⟩=some (.int .i64 rr.phase)∧x.cell? ⟨D,4,none⟩=some (.slice oa1 rr.pend.objects.length oc1)∧x.cell? ⟨D,5,none⟩=some (.slice ua1 rr.pend.updates.length uc1)∧x.cell? ⟨D,6,none⟩=some (.bool rr.pend.force)) ?_;have hT0:=hT.drew _ hT1;generalize w7.drew=y0 at hT0⊢;have hS8:(fun x:World=>x.cell? ⟨M,0,none⟩=some (.slice (some ⟨g,0,none⟩) n c)∧x.cell? ⟨D,0,none⟩=some (.slice AU rr.store.length AX)∧x.cell? ⟨D,1,none⟩=some (.slice ra1 rr.refs.length rc1)∧x.cell? ⟨D,2,none⟩=some (.int .i64 rr.gen)∧x.cell? ⟨D,3,none⟩=some (.int .i64 rr.phase)∧x.cell? ⟨D,4,none⟩=some (.slice oa1 rr.pend.objects.length oc1)∧x.cell? ⟨D,5,none⟩=some (.slice ua1 rr.pend.updates.length uc1)∧x.cell? ⟨D,6,none⟩=some (.bool rr.pend.force)) y0:=⟨hM8 _ hT0,HVT.out _ hT0⟩;refine tk 0 (.pointer (some ⟨M,0,none⟩)) (fun w hSw=>?_) hS8 ?_
  ·go_simp
  simp only[tkS];refine tk 1 (.pointer (some ⟨M,0,none⟩)) (fun w hSw=>?_) hS8 ?_
  ·go_simp
  simp only[tkS];refine tk 2 (.pointer (some ⟨M,0,none⟩)) (fun w hSw=>?_) hS8 ?_
  ·go_simp
  simp only[tkS];refine tk 3 (.pointer (some ⟨M,0,none⟩)) (fun w hSw=>?_) hS8 ?_
  ·go_simp
  simp only[tkS];refine tk 4 (.slice (some ⟨g,0,none⟩) n c) (fun w hSw=>?_) hS8 ?_
  ·have yy:=hSw.1;go_simp
  simp only[tkS];refine tk 5 (.int .i64 (k:Int)) (fun w hSw=>?_) hS8 ?_
  ·go_simp
  simp only[tkS];refine tk 6 (.agg #[.slice AU rr.store.length AX,.slice ra1 rr.refs.length rc1,.int .i64 rr.gen,.int .i64 rr.phase,.slice oa1 rr.pend.objects.length oc1,.slice ua1 rr.pend.updates.length uc1,.bool rr.pend.force]) (fun w hSw=>?_) hS8 ?_
  ·obtain⟨_,u0,u1,u2,u3,u4,u5,u6⟩:=hSw;go_simp
  simp only[tkS];refine tk 7 (.pointer (some ⟨g,k*7,none⟩)) (fun w hSw=>?_) hS8 ?_
  ·go_simp
  simp only[tkS];refine al1 8 ?_;refine Or.inl ?_;obtain⟨z0,z1,z2,z3,z4,z5,z6⟩:=HKc.out _ (hTQ _ hT0);have hOy:=HO.out.below (hQb _ (hTQ _ hT0));have f0:=hOy.free (k*7);have f1:=hOy.free (k*7+1);have f2:=hOy.free (k*7+2);have f3:=hOy.free (k*7+3);have f4:=hOy.free (k*7+4);have f5:=hOy.free (k*7+5);have f6:=hOy.free (k*7+6);have hset:=hOy.set (i:=k) (r:=rr) (x:=⟨.slice AU rr.store.length AX,.slice ra1 rr.refs.length rc1,.slice oa1 rr.pend.objects.length oc1,.slice ua1 rr.pend.updates.length uc1⟩) Hkl.out (S2:=fun b=>wo.heap.size+1≤b∧b<y0.heap.size) (Ax.weaken (Ax.lt (Hv7.out.below (hT.below _ hT0))) fun b hb=>⟨hb.1.1,hb.2⟩) (fun b hb=>⟨hb.2,fun e=>by have:=HSw.out;omega⟩);have Hset:=zh hset;have hMy:y0.heap[M]?=some (.cells #[.slice (some ⟨g,0,none⟩) n c,.int .i64 (mn:Int)] 80 (0,0)):=((hQb _ (hTQ _ hT0)).block _ (by have:=HSw.out;omega)).trans HMb.out;have HMy:=zh hMy;have hBy:=HBw.out.trans ((hQb _ (hTQ _ hT0)).mono (by have:=HSw.out;omega));have HBy:=zh hBy;have hys:=(hQb _ (hTQ _ hT0)).size;have HS8:=zh hS8;clear hset hOy hMy hBy hM8;go_wp2_with fail
  first|refine⟨by kernel_rfl,?_⟩|refine⟨HS8.out,by kernel_rfl,?_⟩
  change Exit.then _ _ _ _ (y0.setCells g (k*7) (Ba rr ⟨.slice AU rr.store.length AX,.slice ra1 rr.refs.length rc1,.slice oa1 rr.pend.objects.length oc1,.slice ua1 rr.pend.updates.length uc1⟩))
  have hM9:=(Hset.out.2).blk HMy.out (fun e=>hgM e.symm);have hB9:=HBy.out.trans (Hset.out.2.below (B:=B) (by have:=HSw.out;omega) (fun b hb=>by omega));have hO9:=Hset.out.1;have hz9:=Hset.out.2.size;clear Hset HMy HBy z0 z1 z2 z3 z4 z5 z6 f0 f1 f2 f3 f4 f5 f6;generalize y0.setCells g (k*7) (Ba rr ⟨.slice AU rr.store.length AX,.slice ra1 rr.refs.length rc1,.slice oa1 rr.pend.objects.length oc1,.slice ua1 rr.pend.updates.length uc1⟩)=w9 at*;have j1:=Aa (j:=1) hM9 rfl;have j2:=Ad (j:=1) hM9;have hw2:=Be (n:=(mn:Int)+1) (by have:=Hl.out;have:=Hn.out;omega);have hu10:=su M 1 w9 (.int .i64 ((mn:Int)+1));have hM10:(w9.setCell ⟨M,1,none⟩ (.int .i64 ((mn:Int)+1))).heap[M]?=some (.cells #[.slice (some ⟨g,0,none⟩) n c,.int .i64 ((mn+1:Nat):Int)] 80 (0,0)):=Ah (j:=1) hM9 (.int .i64 ((mn:Int)+1));have HI2:=zh (show Kl B g c M n (w9.setCell ⟨M,1,none⟩ (.int .i64 ((mn:Int)+1))) (CX l b (k+1)) (Fr l b (k+1))∧Below B w (w9.setCell ⟨M,1,none⟩ (.int .i64 ((mn:Int)+1)))∧w.heap.size≤(w9.setCell ⟨M,1,none⟩ (.int .i64 ((mn:Int)+1))).heap.size from by
   rw[HnT.out,HnN.out];have hz:=HSw.out;have hFM:∀b,(F b∨(wo.heap.size+1≤b∧b<y0.heap.size))→B≤b∧b≠M:=fun b hb=>by rcases hb with hb|hb;exact HF.out b hb;exact⟨by omega,by omega⟩
   exact⟨⟨_,hO9.upd hu10 (fun b hb e=>(hFM b hb).2 e) (fun q hq e=>by subst e;cases hq;exact hgM rfl),hFM,hM10⟩,hB9.trans (hu10.below (B:=B) (by omega) (fun b hb=>by omega)),by have:=hu10.size;omega⟩)
  clear hO9 hM9 hB9 hM10 hu10 HO HF HMb HR HI HVT HKc;go_wp2_with fail;go_roundw
  case rel=>exact⟨k+1,by omega,by go_num,Hs2.out,HI2.out⟩
  case measure=>simp[intOf];omega
def OQ (l:List Am):Int:=if Bp l≠0 then Bp l else An (Dl l (BS l)) l.length
def LH (l:List Am):List Am:=if OQ l=0 then CX l (BS l) l.length else[]
def Rd (l:List Am):Nat:=if OQ l=0 then Fr l (BS l) l.length else 0
theorem Kd (l:List Am) (v:Value) (S:Nat→Prop) (w:World) (h:Az S w v l):
  Calls Tryz.prog 13 #[.agg #[v]] w fun e w'=>∃v',e=.returned (.tuple #[.agg #[v'],.int .i64 (Rd l),.int .i64 (OQ l)])∧DP w.heap.size w' v' (LH l)∧Below w.heap.size w w':=by
 have HE:=zh (show OQ l=if Bp l≠0 then Bp l else An (Dl l (BS l)) l.length from rfl);have HL:=zh (show LH l=if OQ l=0 then CX l (BS l) l.length else[] from rfl);have HN:=zh (show Rd l=if OQ l=0 then Fr l (BS l) l.length else 0 from rfl);have Hnw:=zh (show XO l=if Bp l=0 then(BS l:Int) else 0 from rfl);have H:=zh h;obtain⟨a,cap,rfl⟩:=h.vshape;clear h;obtain⟨R,hR,hR1,HB0⟩:=AF w [.cells #[.slice a l.length cap] 24,.cells #[.slice none 0 0] 24];simp only[List.foldl] at hR1;have hRb:=hR.below;have hRn:=hR.next
 have c0:=fun x (hx:In R x)=>Aa (j:=0) (HB0 x hx 0 _ rfl) rfl
 simp only[Nat.add_zero] at c0;have HZ:=zh (fun x (hx:In R x)=>HB0 x hx 1 _ rfl);have HSz:=zh (fun x (hx:In R x)=>show w.heap.size+2≤x.heap.size from lt_of_block (HB0 x hx 1 _ rfl));clear HB0;have HNe:=zh (fun x (hx:In R x)=>Ky l _ _ x (H.out.below (hRb _ hx)));have HOw:=zh (fun x (hx:In R x)=>Kt l _ _ x (H.out.below (hRb _ hx)));have cc:=c0 _ hR1;have Hzero:=zh (fun(h:Bp l=0)=>Pw h);by_cases hz:Bp l=0
 case neg=>
  have HE2:=zh (show OQ l=Bp l by rw[HE.out,if_pos hz]);have HL2:=zh (show LH l=[] by rw[HL.out,HE2.out,if_neg hz]);have HN2:=zh (show Rd l=0 by rw[HN.out,HE2.out,if_neg hz]);rw[Hnw.out,if_neg hz] at HNe;have hq:(Bp l==0)=false:=by simpa using hz
  have hq2:(Bp l !=0)=true:=by simpa using hz
  clear hz HE HL HN Hnw Hzero;generalize Bp l=ce at*
  go_enter Tryz.func13, Tryz.ntmps13
  go_wp2_with fail;refine(HNe.out _ hR1).mono ?_;rintro e w1 ⟨rfl,hb1⟩;have hR2:=hRn _ _ hR1 hb1;have c1:=c0 _ hR2;clear cc;go_wp2_with fail;refine(HOw.out _ hR2).mono ?_;rintro e w2 ⟨v2,rfl,⟨F,hO,hF⟩,hb2⟩;obtain⟨a2,c2,rfl⟩:=hO.shape;have hR3:=hRn _ _ hR2 hb2;have hsz2:=HSz.out _ hR2;have hle2:=hb2.size;have hR4:=hR.alloc _ (.cells #[.slice a2 l.length c2,.int .i64 0] 80) hR3;have hM4:(w2.alloc (.cells #[.slice a2 l.length c2,.int .i64 0] 80)).heap[w2.heap.size]?=some (.cells #[.slice a2 l.length c2,.int .i64 0] 80 (0,0)):=heap_alloc_new w2 _;have hs4:(w2.alloc (.cells #[.slice a2 l.length c2,.int .i64 0] 80)).heap.size=w2.heap.size+1:=by simp
  have hO4:=hO.below ((Below.refl w2.heap.size w2).alloc (Nat.le_refl _) (.cells #[.slice a2 l.length c2,.int .i64 0] 80));have HO:=zh hO;clear hb1 hb2 hO c1;clear hO4 hM4 hs4;obtain⟨w4,hw4⟩:∃w4,w4=w2.alloc (.cells #[.slice a2 l.length c2,.int .i64 0] 80):=⟨_,rfl⟩;rw[←hw4] at hR4;have Hw4:=zh hw4;have hZ:=HZ.out _ hR4;have gz:=Aa (j:=0) hZ rfl;have fz:=Ad (j:=0) hZ;rw[hw4] at gz fz;clear hw4;go_wp2_with fail;rw[←Hw4.out];have hu5:=su (w.heap.size+1) 0 w4 (.slice none 0 0);have hk5:=sb hZ (.slice none 0 0);have hB5:=(hRb _ hR4).trans (hu5.below (B:=w.heap.size) (hRb _ hR4).size (fun b hb=>by omega));generalize w4.setCell ⟨w.heap.size+1,0,none⟩ (.slice none 0 0)=x5 at*;have k0:=Aa (j:=0) hk5 rfl;refine bodyPost_ret (v:=.tuple #[.agg #[.slice none 0 0],.int .i64 0,.int .i64 ce]) (by simp[results,Tryz.results13,go_sem];simp[k0]<;>rfl) rfl ?_;refine⟨_,by rw[HN2.out,HE2.out];rfl,by rw[HL2.out];exact⟨fun _=>False,BD.nil _ _ _ (fun _ h=>h.elim),fun _ h=>h.elim⟩,hB5⟩
 have hz3:=Hzero.out hz;have hbl:=GZ (l:=l) (by omega);rw[if_neg (by simpa using hz)] at HE;rw[Hnw.out,if_pos hz,hz] at HNe;have Hz3:=zh hz3;clear hz Hnw Hzero hz3
 go_enter Tryz.func13, Tryz.ntmps13
 go_wp2_with fail;refine(HNe.out _ hR1).mono ?_;rintro e w1 ⟨rfl,hb1⟩;have hR2:=hRn _ _ hR1 hb1;have c1:=c0 _ hR2;clear cc;go_wp2_with fail;refine(HOw.out _ hR2).mono ?_;rintro e w2 ⟨v2,rfl,⟨F,hO,hF⟩,hb2⟩;obtain⟨a2,c2,rfl⟩:=hO.shape;have hR3:=hRn _ _ hR2 hb2;have hsz2:=HSz.out _ hR2;have hle2:=hb2.size;have hR4:=hR.alloc _ (.cells #[.slice a2 l.length c2,.int .i64 0] 80) hR3;have hM4:(w2.alloc (.cells #[.slice a2 l.length c2,.int .i64 0] 80)).heap[w2.heap.size]?=some (.cells #[.slice a2 l.length c2,.int .i64 0] 80 (0,0)):=heap_alloc_new w2 _;have hs4:(w2.alloc (.cells #[.slice a2 l.length c2,.int .i64 0] 80)).heap.size=w2.heap.size+1:=by simp
 have hO4:=hO.below ((Below.refl w2.heap.size w2).alloc (Nat.le_refl _) (.cells #[.slice a2 l.length c2,.int .i64 0] 80));have HO:=zh hO;clear hb1 hb2 hO c1;obtain⟨g,rfl⟩:∃g,a2=some ⟨g,0,none⟩:=by
  obtain⟨_,_,⟨_,h2⟩,_⟩:=HO.out;rcases h2 with⟨e,h0⟩|⟨g,cp,cur,e,_⟩
  ·exfalso;omega
  ·cases e;exact⟨g,rfl⟩
 have hgl:g<w2.heap.size:=(HO.out.block rfl).2;have hMA:Kl w1.heap.size g c2 w2.heap.size l.length (w2.alloc (.cells #[.slice (some ⟨g,0,none⟩) l.length c2,.int .i64 0] 80)) l 0:=⟨F,hO4,fun b hb=>⟨hF b hb,fun e=>by have:=HO.out.lt hb;omega⟩,hM4⟩;have Hmend:=zh (XI l (BS l) hbl g c2 w2.heap.size w1.heap.size _ hMA (by omega) hle2 (by have:=Hz3.out.1;omega) (fun i hi=>CL (Hz3.out.2.1 i (by have:=Hz3.out.1;omega))));clear hMA hO4 hM4;go_wp2_with fail;refine Hmend.out.mono ?_;rintro e w5 ⟨rfl,hb5,hM5⟩;have hbb:Below (w.heap.size+2) w2 w5:=by
  have h1:Below (w.heap.size+2) w2 (w2.alloc (.cells #[.slice (some ⟨g,0,none⟩) l.length c2,.int .i64 0] 80)):=(Below.refl _ _).alloc (by omega) _;exact h1.trans (hb5.mono hsz2)
 have hZ:w5.heap[w.heap.size+1]?=some (.cells #[.slice none 0 0] 24 (0,0)):=(hbb.block _ (by omega)).trans (HZ.out _ hR3);have hB0:Below w.heap.size w w5:=(hRb _ hR3).trans (hbb.mono (by omega));have HB0:=zh hB0;clear hb5 hbb hB0 Hmend hR4 hs4;by_cases he:An (Dl l (BS l)) l.length=0
 case neg=>
  have HE2:=HE;have HL2:=zh (show LH l=[] by rw[HL.out,HE2.out,if_neg he]);have HN2:=zh (show Rd l=0 by rw[HN.out,HE2.out,if_neg he]);have hq2:(An (Dl l (BS l)) l.length !=0)=true:=by simpa using he
  clear he HE HL HN hM5;generalize An (Dl l (BS l)) l.length=se at*;have gz:=Aa (j:=0) hZ rfl;have fz:=Ad (j:=0) hZ;go_wp2_with fail;have hu5:=su (w.heap.size+1) 0 w5 (.slice none 0 0);have hk5:=sb hZ (.slice none 0 0);have hB5:=HB0.out.trans (hu5.below (B:=w.heap.size) HB0.out.size (fun b hb=>by omega));generalize w5.setCell ⟨w.heap.size+1,0,none⟩ (.slice none 0 0)=x5 at*;have k0:=Aa (j:=0) hk5 rfl;refine bodyPost_ret (v:=.tuple #[.agg #[.slice none 0 0],.int .i64 0,.int .i64 se]) (by simp[results,Tryz.results13,go_sem];simp[k0]<;>rfl) rfl ?_;refine⟨_,by rw[HN2.out,HE2.out];rfl,by rw[HL2.out];exact⟨fun _=>False,BD.nil _ _ _ (fun _ h=>h.elim),fun _ h=>h.elim⟩,hB5⟩
 have HE2:=zh (show OQ l=0 by rw[HE.out,he]);have HL2:=zh (show LH l=CX l (BS l) l.length by rw[HL.out,if_pos HE2.out]);have HN2:=zh (show Rd l=Fr l (BS l) l.length by rw[HN.out,if_pos HE2.out]);obtain⟨F5,hO5,hF5,hM5⟩:=hM5 he;rw[he];clear he HE HL HN;rw[←HL2.out] at hO5;rw[←HN2.out] at hM5;generalize hna:Rd l=an at hM5;have Hna:=zh hna;clear hna;have HO5:=zh hO5;have HF5:=zh hF5;clear hO5 hF5;go_wp2_with fail;refine rh (fun x:World=>x.cell? ⟨w2.heap.size,0,none⟩=some (.slice (some ⟨g,0,none⟩) l.length c2)∧x.cell? ⟨w2.heap.size,1,none⟩=some (.int .i64 (an:Int))) ?_;have hS8:(fun x:World=>x.cell? ⟨w2.heap.size,0,none⟩=some (.slice (some ⟨g,0,none⟩) l.length c2)∧x.cell? ⟨w2.heap.size,1,none⟩=some (.int .i64 (an:Int))) w5.drew:=⟨Aa (j:=0) hM5 rfl,Aa (j:=1) hM5 rfl⟩;have hM6:w5.drew.heap[w2.heap.size]?=some (.cells #[.slice (some ⟨g,0,none⟩) l.length c2,.int .i64 (an:Int)] 80 (0,0)):=hM5;have hZ6:w5.drew.heap[w.heap.size+1]?=some (.cells #[.slice none 0 0] 24 (0,0)):=hZ;have HO6:=zh (HO5.out.below (Below.refl _ _).drew);have HB6:=zh (HB0.out.trans (Below.refl _ _).drew);clear hM5 hZ HB0 HO5;generalize w5.drew=y0 at*;refine tk 0 (.pointer (some ⟨w2.heap.size,0,none⟩)) (fun w hSw=>?_) hS8 ?_
 ·go_simp
 simp only[tkS];refine tk 1 (.pointer (some ⟨w2.heap.size,0,none⟩)) (fun w hSw=>?_) hS8 ?_
 ·go_simp
 simp only[tkS];refine tk 2 (.pointer (some ⟨w2.heap.size,0,none⟩)) (fun w hSw=>?_) hS8 ?_
 ·go_simp
 simp only[tkS];refine tk 3 (.agg #[.slice (some ⟨g,0,none⟩) l.length c2]) (fun w hSw=>?_) hS8 ?_
 ·have yy:=hSw.1;go_simp
 simp only[tkS];refine tk 4 (.pointer (some ⟨w2.heap.size,0,none⟩)) (fun w hSw=>?_) hS8 ?_
 ·go_simp
 simp only[tkS];refine tk 5 (.pointer (some ⟨w2.heap.size,0,none⟩)) (fun w hSw=>?_) hS8 ?_
 ·go_simp
 simp only[tkS];refine tk 6 (.pointer (some ⟨w2.heap.size,1,none⟩)) (fun w hSw=>?_) hS8 ?_
 ·go_simp
 simp only[tkS];refine tk 7 (.int .i64 (an:Int)) (fun w hSw=>?_) hS8 ?_
 ·have yy:=hSw.2;go_simp
 simp only[tkS];refine al1 8 ?_;refine Or.inl ?_;have gz:=Aa (j:=0) hZ6 rfl;have fz:=Ad (j:=0) hZ6;have hu7:=su (w.heap.size+1) 0 y0 (.slice (some ⟨g,0,none⟩) l.length c2);have hk7:=sb hZ6 (.slice (some ⟨g,0,none⟩) l.length c2);have HS9:=zh (show(fun x:World=>x.cell? ⟨w2.heap.size,0,none⟩=some (.slice (some ⟨g,0,none⟩) l.length c2)∧x.cell? ⟨w2.heap.size,1,none⟩=some (.int .i64 (an:Int))) (y0.setCell ⟨w.heap.size+1,0,none⟩ (.slice (some ⟨g,0,none⟩) l.length c2)) from⟨hu7.cell hS8.1 (by show¬(w2.heap.size=w.heap.size+1);omega),hu7.cell hS8.2 (by show¬(w2.heap.size=w.heap.size+1);omega)⟩);have Hk7:=zh hk7;have HB7:=zh (HB6.out.trans (hu7.below (B:=w.heap.size) HB6.out.size (fun b hb=>by omega)));have HO7:=zh (HO6.out.upd hu7 (fun b hb e=>by have:=(HF5.out b hb).1;omega) (fun q hq e=>by have:=(HO6.out.block hq).1;omega));clear hu7 hk7;go_wp2_with fail
 first|refine⟨HS9.out,?_⟩|refine⟨hS8,?_⟩|skip
 change wpAnyH _ _ _ _ _ _ _ _ (y0.setCell ⟨w.heap.size+1,0,none⟩ (.slice (some ⟨g,0,none⟩) l.length c2));have hS9:=HS9.out;have hk7:=Hk7.out;clear HS9 Hk7 gz fz hS8 hM6 hZ6 HO6 HB6;generalize y0.setCell ⟨w.heap.size+1,0,none⟩ (.slice (some ⟨g,0,none⟩) l.length c2)=y1 at*;refine al1 9 ?_;refine Or.inl ?_;go_simp
 first|refine⟨hS9,?_⟩|skip
 refine al1 10 ?_;refine Or.inl ?_;go_simp
 first|refine⟨hS9,?_⟩|skip
 refine wpAnyH_done (by kernel_rfl) ?_ _;go_wp2_with fail;have k0:=Aa (j:=0) hk7 rfl;refine bodyPost_ret (v:=.tuple #[.agg #[.slice (some ⟨g,0,none⟩) l.length c2],.int .i64 (an:Int),.int .i64 0]) (by simp[results,Tryz.results13,go_sem];simp[k0]<;>rfl) rfl ?_;refine⟨_,by rw[HE2.out,Hna.out],⟨F5,HO7.out.weaken (fun _ h=>h) (fun b hb=>⟨HO7.out.lt hb,HO7.out.own hb⟩) (by omega),fun b hb=>by have:=(HF5.out b hb).1;omega⟩,HB7.out⟩
variable [Ghost]
theorem AB.take {S:Nat→Prop} {w:World} {a:Option Addr} {n cap:Nat} {l:List Rf} (h:AB S w (.slice a n cap) l) {i:Nat} (hi:i≤l.length):AB S w (.slice a i cap) (l.take i):=by
 obtain⟨⟨a',cap',hv,h1,h2,h3,h4⟩,h5⟩:=h;cases hv;have hl:(l.take i).length=i:=by simp;omega
 refine⟨⟨a,cap,by rw[hl],by omega,h2,by omega,fun hp=>?_⟩,fun r hr=>h5 r (List.mem_of_mem_take hr)⟩;rw[hl] at hp;obtain⟨b,off,ha,hS,hc⟩:=h4 (by omega);refine⟨b,off,ha,⟨hS.1,hS.2.sub (Nat.le_refl _) (by rw[hl];omega)⟩,fun j hj m u hu=>hc j (by omega) m u ?_⟩;have e:rf (l.take i) j=rf l j:=by unfold rf at_;simp only[List.getD_eq_getElem?_getD,List.getElem?_take,show j<i by omega,if_true]
 have hu':[Value.string (rf (l.take i) j).name,.int .i64 (rf (l.take i) j).id][m]?=some u:=hu;rw[e] at hu';exact hu'
theorem AB.drop {S:Nat→Prop} {w:World} {b off n cap:Nat} {l:List Rf} (h:AB S w (.slice (some ⟨b,off,none⟩) n cap) l) {i:Nat} (hi:i≤l.length):AB S w (.slice (some ⟨b,off+i*2,none⟩) (n-i) (cap-i)) (l.drop i):=by
 obtain⟨⟨a',cap',hv,h1,h2,h3,h4⟩,h5⟩:=h;cases hv;have hl:(l.drop i).length=l.length-i:=by simp
 refine⟨⟨_,cap-i,by rw[hl],by omega,by omega,by omega,fun hp=>?_⟩,fun r hr=>h5 r (List.mem_of_mem_drop hr)⟩;rw[hl] at hp;obtain⟨b',off',ha,hS,hc⟩:=h4 (by omega);cases ha;refine⟨b,off+i*2,rfl,⟨hS.1,hS.2.sub (by omega) (by rw[hl];omega)⟩,fun j hj m u hu=>?_⟩;have e:rf (l.drop i) j=rf l (i+j):=by unfold rf at_;simp only[List.getD_eq_getElem?_getD,List.getElem?_drop]
 have hu':[Value.string (rf (l.drop i) j).name,.int .i64 (rf (l.drop i) j).id][m]?=some u:=hu;rw[e] at hu';have:=hc (i+j) (by omega) m u hu';rw[show off+i*2+j*2+m=off+(i+j)*2+m by omega];exact this
end Go.Proofs.YtgbnlmplkealdaaGreatDoor
