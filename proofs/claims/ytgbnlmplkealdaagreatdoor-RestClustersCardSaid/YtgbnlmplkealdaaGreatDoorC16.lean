
/- Walks: pushes: what they read as. -/
import Derived.Test.YtgbnlmplkealdaaGreatDoorC14
import Derived.Test.YtgbnlmplkealdaaGreatDoorC15
set_option linter.all false
set_option maxHeartbeats 4000000
set_option maxRecDepth 100000
namespace Go.Proofs.YtgbnlmplkealdaaGreatDoor
open Go.RowKit
variable [Ghost]
structure BM where
 objects:List Obj
 updates:List Mv
 force:Bool
structure Am where
 store:List Obj
 refs:List Rf
 gen:Int
 phase:Int
 pend:BM
@[reducible, simp, go_sem] def c7 (r:Am) (sa:Option Addr) (sc:Nat) (ra:Option Addr) (rc:Nat) (oa:Option Addr) (oc:Nat) (ua:Option Addr) (uc:Nat):Array Value:=#[.slice sa r.store.length sc,.slice ra r.refs.length rc,.int .i64 r.gen,.int .i64 r.phase,.slice oa r.pend.objects.length oc,.slice ua r.pend.updates.length uc,.bool r.pend.force]
@[reducible] def q7 (x:World) (b:Nat) (r:Am) (sa:Option Addr) (sc:Nat) (ra:Option Addr) (rc:Nat) (oa:Option Addr) (oc:Nat) (ua:Option Addr) (uc:Nat):Prop:=x.cell? ⟨b,0,none⟩=some (.slice sa r.store.length sc)∧x.cell? ⟨b,1,none⟩=some (.slice ra r.refs.length rc)∧x.cell? ⟨b,2,none⟩=some (.int .i64 r.gen)∧x.cell? ⟨b,3,none⟩=some (.int .i64 r.phase)∧x.cell? ⟨b,4,none⟩=some (.slice oa r.pend.objects.length oc)∧x.cell? ⟨b,5,none⟩=some (.slice ua r.pend.updates.length uc)∧x.cell? ⟨b,6,none⟩=some (.bool r.pend.force)
@[reducible] def s7 {α:Type} (f:Value→Value→Value→Value→Value→Value→Value→α) (r:Am) (sa:Option Addr) (sc:Nat) (ra:Option Addr) (rc:Nat) (oa:Option Addr) (oc:Nat) (ua:Option Addr) (uc:Nat):α:=f (.slice sa r.store.length sc) (.slice ra r.refs.length rc) (.int .i64 r.gen) (.int .i64 r.phase) (.slice oa r.pend.objects.length oc) (.slice ua r.pend.updates.length uc) (.bool r.pend.force)
def CU:BM:=⟨[],[],false⟩
def BE:Am:=⟨[],[],0,0,CU⟩
def As (p:BM):Int:=if 12<p.objects.length then 2 else if Ew p.objects≠0 then Ew p.objects else AP p.updates
def Bv (r:Am) (p:BM):Int:=if DE r.store p.objects≠0 then DE r.store p.objects else CQ r.refs (CD r.store p.objects) p.updates p.force
def Fp (r:Am) (p:BM):List Obj:=if Bv r p=0 then CD r.store p.objects else[]
def ES (r:Am) (p:BM):List Rf:=if Bv r p=0 then Ei r.refs (CD r.store p.objects) p.updates p.force else[]
theorem JD (w:World) (cs ds:Array Value) (t u:TypeId):∃R:World→Prop,SL w R∧In R ((w.alloc (.cells cs t)).alloc (.cells ds u))∧
  (∀j v,cs[j]?=some v→∀x,In R x→x.cell? ⟨w.heap.size,j,none⟩=some v)∧(∀j v,ds[j]?=some v→∀x,In R x→x.cell? ⟨w.heap.size+1,j,none⟩=some v):=by
 have hb:Below w.heap.size w ((w.alloc (.cells cs t)).alloc (.cells ds u)):=bal.alloc (by simp) _;refine⟨_,Ib w _ (w.heap.size+2) (by omega) (by simp) hb,Below.refl _ _,fun j v hv x hx=>?_,fun j v hv x hx=>?_⟩
 ·rw[Below.cell hx (p:=⟨w.heap.size,j,none⟩) (by simp)]
  rw[World.cell?_alloc_lt _ _ _ (by simp),World.cell?_alloc_at _ _ _ _ rfl];exact hv
 ·rw[Below.cell hx (p:=⟨w.heap.size+1,j,none⟩) (by simp)]
  rw[World.cell?_alloc_at _ _ _ _ (by simp)];exact hv
theorem Dv {p:BM} (h:As p=0):p.objects.length≤12∧Ew p.objects=0∧AP p.updates=0:=by
 unfold As at h;by_cases h1:12<p.objects.length
 ·rw[if_pos h1] at h;exact absurd h (by decide)
 ·rw[if_neg h1] at h
  by_cases h2:Ew p.objects≠0
  ·rw[if_pos h2] at h;exact absurd h h2
  ·rw[if_neg h2] at h;exact⟨by omega,by simpa using h2,h⟩
theorem Gx (p:BM) (ov uv:Value) (S S':Nat→Prop) (w:World) (ho:Ai S w ov p.objects) (hu:AJ S' w uv p.updates):
  Calls Tryz.prog 67 #[.agg #[ov,uv,.bool p.force]] w fun e w'=>e=.returned (.int .i64 (As p))∧Below w.heap.size w w':=by
 have HE:=zh (fun x (hx:Below w.heap.size w x)=>NE (Mj p.objects x) ov S (ho.below hx) (Below.refl _ _));have HM:=zh (fun x (hx:Below w.heap.size w x)=>QS p.updates _ _ x (hu.below hx));have HW:=zh (show As p=if 12<p.objects.length then 2 else if Ew p.objects≠0 then Ew p.objects else AP p.updates from rfl);have hee:An (fun k=>Aw (obj p.objects k)) p.objects.length=Ew p.objects:=rfl;rw[hee] at HE;obtain⟨oa,oc,rfl⟩:=ho.vshape;obtain⟨⟨ua,uc⟩,rfl⟩:=hu.shape;obtain⟨R,hR,hR1,hy⟩:=BO w #[.slice oa p.objects.length oc,.slice ua p.updates.length uc,.bool p.force] 28;have y0:=hy 0 _ rfl;have y1:=hy 1 _ rfl;have hRb:=hR.below;have hRn:=hR.next
 have y01:=y0 _ hR1;clear hy ho hu hee;generalize Ew p.objects=ee at*;generalize AP p.updates=mm at*;by_cases h12:12<p.objects.length
 ·have hd:decide ((12:Int)<(p.objects.length:Int))=true:=by simp;omega
  rw[HW.out,if_pos h12]
  go_enter Tryz.func67, Tryz.ntmps67
  go_wp2_with fail;go_ret;exact⟨rfl,hRb _ hR1⟩
 ·have hd:decide ((12:Int)<(p.objects.length:Int))=false:=by simp;omega
  rw[HW.out,if_neg h12];have HE2:=zh (HE.out _ (hRb _ hR1));clear h12 HW HE;by_cases he:ee=0
  ·rw[if_neg (by simp[he])]
   rw[he] at HE2;clear he
   go_enter Tryz.func67, Tryz.ntmps67
   go_wp2_with fail;refine HE2.out.mono ?_;rintro e w2 ⟨rfl,hb2,_⟩;have hR2:=hRn _ _ hR1 hb2;have y12:=y1 _ hR2;clear hb2 hR1 y01;go_wp2_with fail;refine(HM.out _ (hRb _ hR2)).mono ?_;rintro e w3 ⟨rfl,hb3⟩;have hR3:=hRn _ _ hR2 hb3;go_wp2_with fail;go_ret;exact⟨rfl,hRb _ hR3⟩
  ·rw[if_pos he]
   have q:(ee !=0)=true:=by simpa using he
   clear he
   go_enter Tryz.func67, Tryz.ntmps67
   go_wp2_with fail;refine HE2.out.mono ?_;rintro e w2 ⟨rfl,hb2,_⟩;have hR2:=hRn _ _ hR1 hb2;clear hb2 hR1 y01;go_wp2_with fail;go_ret;exact⟨rfl,hRb _ hR2⟩
theorem JU (p:BM) (ov uv:Value) (S S':Nat→Prop) (w:World) (ho:Ai S w ov p.objects) (hu:AJ S' w uv p.updates):
  Calls Tryz.prog 54 #[.agg #[ov,uv,.bool p.force]] w fun e w'=>e=.returned (.int .i64 (As p))∧Below w.heap.size w w':=by
 have ho':=ho;have HM:=zh (fun x (hx:Below w.heap.size w x)=>GI p.updates _ _ x (hu.below hx));have HW:=zh (show As p=if 12<p.objects.length then 2 else if Ew p.objects≠0 then Ew p.objects else AP p.updates from rfl);have HS:=zh (show Ew p.objects=An (fun k=>Aw (obj p.objects k)) p.objects.length from rfl);obtain⟨oa,n,oc,la,ln,lc,HN,rfl,h1,h2,h3,h4,h5⟩:=ho.open;obtain⟨⟨ua,uc⟩,rfl⟩:=hu.shape;obtain⟨R,hR,hR1,hy⟩:=BO w #[.slice oa n oc,.slice ua p.updates.length uc,.bool p.force] 28;have y0:=hy 0 _ rfl;have y1:=hy 1 _ rfl;have hRb:=hR.below;have hRn:=hR.next
 have Hn:=zh HN.out.1;have y01:=y0 _ hR1;clear hy ho hu;by_cases h12:12<p.objects.length
 ·have hd:decide ((12:Int)<(n:Int))=true:=by have:=Hn.out;simp;omega
  rw[HW.out,if_pos h12]
  go_enter Tryz.func54, Tryz.ntmps54
  go_wp2_with fail;go_ret;exact⟨rfl,hRb _ hR1⟩
 ·have hd:decide ((12:Int)<(n:Int))=false:=by have:=Hn.out;simp;omega
  have HG:=zh (fun(h:An (fun k=>Aw (obj p.objects k)) n=0)=>show As p=AP p.updates by
   rw[HW.out,if_neg h12,HS.out,←Hn.out,if_neg (by simp[h])])
  have HB:=zh (fun e (h:An (fun k=>Aw (obj p.objects k)) n=e) (he:e≠0)=>show As p=e by
   rw[HW.out,if_neg h12,HS.out,←Hn.out,h,if_pos he])
  generalize As p=cp at*;generalize AP p.updates=mm at*;clear h12 HW HS
  go_enter Tryz.func54, Tryz.ntmps54
  go_wp2_with fail;go_loopw [3] (fun i wr=>∃k:Nat,k≤n∧i=.int .i64 k∧Hid (An (fun k=>Aw (obj p.objects k)) k=0)∧In R wr) (fun i _=>n-(intOf i).toNat)
  case atStart=>exact⟨0,by omega,rfl,rfl,hR1⟩
  obtain⟨k,hk,rfl,Hs,hRw⟩:=hrel;clear hR1 y01;have y0w:=y0 _ hRw;have y1w:=y1 _ hRw;by_cases hlt:k<n
  ·obtain⟨b,off,rfl,hb,k0,k1,k2,k3⟩:=h4 (by omega)
   have x0:=k0 k wr hlt (hRb _ hRw);have x1:=k1 k wr hlt (hRb _ hRw);have x2:=k2 k wr hlt (hRb _ hRw);have x3:=k3 k wr hlt (hRb _ hRw);have Hc:=zh (Ed (obj p.objects k) _ _ wr ((h5 k hlt).below (hRb _ hRw)));have hi1:=zk k;have hi2:(k:Int)<(n:Int):=by omega
   clear h4 h5 k0 k1 k2 k3;by_cases he:Aw (obj p.objects k)=0
   ·have Hs2:=zh (Ay Hs.out he)
    rw[he] at Hc;clear he;go_wp2_with fail;refine Hc.out.mono ?_;rintro e w2 ⟨rfl,hb2⟩;have hR2:=hRn _ _ hRw hb2;clear hb2;go_wp2_with fail;go_roundw
    case rel=>exact⟨k+1,by omega,by go_num,Hs2.out,hR2⟩
    case measure=>simp[intOf];omega
   ·have Hs2:=zh (show An (fun k=>Aw (obj p.objects k)) n=Aw (obj p.objects k) from BX Hs.out he hlt)
    have q:(Aw (obj p.objects k) !=0)=true:=by simpa using he
    have He:=zh (HB.out _ Hs2.out he);clear he;go_wp2_with fail;refine Hc.out.mono ?_;rintro e w2 ⟨rfl,hb2⟩;have hR2:=hRn _ _ hRw hb2;clear hb2;go_wp2_with fail;go_ret;exact⟨Af He.out.symm,hRb _ hR2⟩
  ·obtain rfl:k=n:=by omega
   have Hs2:=zh (HG.out Hs.out);go_wp2_with fail;refine(HM.out _ (hRb _ hRw)).mono ?_;rintro e w3 ⟨rfl,hb3⟩;have hR3:=hRn _ _ hRw hb3;go_wp2_with fail;go_ret;exact⟨Af Hs2.out.symm,hRb _ hR3⟩
def SP (w w':World) (e:Ending) (l:List Obj) (m:List Rf) (c:Int):Prop:=
 ∃v u,e=.returned (.tuple #[v,u,.int .i64 c])∧Ai (fun _=>True) w' v l∧AB (fun _=>True) w' u m∧Below w.heap.size w w'
def GY (P:Nat→Prop) (w w':World) (e:Ending) (l:List Obj) (m:List Rf) (c:Int):Prop:=
 ∃v u,e=.returned (.tuple #[v,u,.int .i64 c])∧Ai P w' v l∧AB P w' u m∧Below w.heap.size w w'
theorem GY.e {P:Nat→Prop} {w w':World} {e:Ending} {l:List Obj} {m:List Rf} {c:Int} (h:GY P w w' e l m c):SP w w' e l m c:=
 let⟨v,u,h1,h2,h3,h4⟩:=h;⟨v,u,h1,h2.weaken fun _ _=>trivial,h3.weaken fun _ _=>trivial,h4⟩
theorem GY.weaken {P P':Nat→Prop} {w w':World} {e:Ending} {l:List Obj} {m:List Rf} {c:Int} (h:GY P w w' e l m c) (hP:∀b,P b→P' b):GY P' w w' e l m c:=
 let⟨v,u,h1,h2,h3,h4⟩:=h;⟨v,u,h1,h2.weaken hP,h3.weaken hP,h4⟩
theorem Zv {r:Am} {p:BM} (hp:AP p.updates=0) (ha:DE r.store p.objects=0):Bv r p=if AE r.refs (CD r.store p.objects)≠0 then AE r.refs (CD r.store p.objects) else Ce r.refs (CD r.store p.objects) p.updates p.force:=by
 have hc:=(WH ha).whole;have hr:Ap r.refs (CD r.store p.objects)=AE r.refs (CD r.store p.objects):=by unfold Ap;rw[if_neg (by simp[hc])]
 unfold Bv CQ;rw[if_neg (by simp[ha]),hr];by_cases h:AE r.refs (CD r.store p.objects)=0
 ·rw[if_neg (by simp[h]),if_neg (by simp[hp]),if_neg (by simp[h])]
 ·rw[if_pos h,if_pos h]
theorem Lh (r:Am) (p:BM) (sv rv ov uv ov2 uv2:Value) (S S1 S2 S3:Nat→Prop) (w:World) (hs:Ai S w sv r.store) (hr:AB S1 w rv r.refs) (ho:Ai S2 w ov p.objects) (hu:AJ S3 w uv p.updates) (hp:AP p.updates=0)
  (h2:(∃a n c,ov2=.slice a n c)∧∃a n c,uv2=.slice a n c):
  Calls Tryz.prog 148 #[.agg #[sv,rv,.int .i64 r.gen,.int .i64 r.phase,ov2,uv2,.bool r.pend.force],.agg #[ov,uv,.bool p.force]] w fun e w'=>GY (fun b=>w.heap.size≤b) w w' e (Fp r p) (ES r p) (Bv r p):=by
 have Ha:=zh (fun x (hx:Below w.heap.size w x)=>WG r.store p.objects _ _ _ _ x (hs.below hx) (ho.below hx));have Hr:=zh (fun hR x v (hx:Below w.heap.size w x) (hv:Ai (fun _=>True) x v (CD r.store p.objects))=>Md r.refs (CD r.store p.objects) _ _ _ _ x (hr.below hx) hv hR);have Hm:=zh (fun hk hR hul x v (hx:Below w.heap.size w x) (hv:Ai (fun _=>True) x v (CD r.store p.objects))=>Uc r.refs (CD r.store p.objects) p.updates p.force _ _ _ _ _ _ x (hr.below hx) hv (hu.below hx) hk hR hul);have HE:=zh (show DE r.store p.objects≠0→Bv r p=DE r.store p.objects from fun h=>by unfold Bv;rw[if_pos h]);have HT:=zh (Zv (r:=r) hp);have HL:=zh (show Fp r p=if Bv r p=0 then CD r.store p.objects else[] from rfl);have HM:=zh (show ES r p=if Bv r p=0 then Ei r.refs (CD r.store p.objects) p.updates p.force else[] from rfl);have HA:=zh (show Ey r.refs (CD r.store p.objects) p.updates p.force=if Ce r.refs (CD r.store p.objects) p.updates p.force=0 then AL r.refs p.updates p.updates.length else[] from rfl);have HP:=zh (show Ei r.refs (CD r.store p.objects) p.updates p.force=if CQ r.refs (CD r.store p.objects) p.updates p.force=0 then AL r.refs p.updates p.updates.length else[] from rfl);have HTa:=zh (show DE r.store p.objects=0→Bv r p=CQ r.refs (CD r.store p.objects) p.updates p.force from fun h=>by unfold Bv;rw[if_neg (by simp[h])]);have h4:=(Jp.1 hp).many;obtain⟨sa,sc,rfl⟩:=hs.vshape;obtain⟨⟨ra,rc⟩,rfl⟩:=hr.shape;obtain⟨oa,oc,rfl⟩:=ho.vshape;obtain⟨⟨ua,uc⟩,rfl⟩:=hu.shape;obtain⟨⟨oa2,on2,oc2,rfl⟩,⟨ua2,un2,uc2,rfl⟩⟩:=h2
 obtain⟨R,hR,hR1,hy,hz⟩:=JD w #[.slice sa r.store.length sc,.slice ra r.refs.length rc,.int .i64 r.gen,.int .i64 r.phase,.slice oa2 on2 oc2,.slice ua2 un2 uc2,.bool r.pend.force] #[.slice oa p.objects.length oc,.slice ua p.updates.length uc,.bool p.force] 34 28;have y1:=hy 1 _ rfl;have z1:=hz 1 _ rfl;have z2:=hz 2 _ rfl;have hRb:=hR.below;have hRn:=hR.next
 clear hy hz hs hr ho hu;have Ha1:=zh (Ha.out _ (hRb _ hR1));by_cases ha:DE r.store p.objects=0
 case neg=>
  have HX:=zh (HE.out ha);have HX1:=zh (show Fp r p=[] by rw[HL.out,HX.out,if_neg ha]);have HX2:=zh (show ES r p=[] by rw[HM.out,HX.out,if_neg ha]);have q:(DE r.store p.objects !=0)=true:=by simpa using ha
  rw[HX1.out,HX2.out,HX.out];clear ha y1 z1 z2
  go_enter Tryz.func148, Tryz.ntmps148
  go_wp2_with fail;refine Ha1.out.mono ?_;rintro e w2 ⟨v2,rfl,hv2,hb2⟩;obtain⟨a2,c2,rfl⟩:=hv2.vshape;have hR2:=hRn _ _ hR1 hb2;clear hv2 hb2;go_wp2_with fail;go_ret3;exact⟨_,_,rfl,Ai.nil _ _ _ _ (by omega),AB.nil _ _ _ _ (by omega),hRb _ hR2⟩
 have hc:=(WH ha).whole;have Hri:=zh (GR hc);have HT2:=zh (HT.out ha);have HTa2:=zh (HTa.out ha);rw[ha] at Ha1;clear HE HTa HT ha hc;generalize CD r.store p.objects=L at*;by_cases hg:AE r.refs L=0
 case neg=>
  have HX:=zh (show Bv r p=AE r.refs L by rw[HT2.out,if_pos hg]);have HX1:=zh (show Fp r p=[] by rw[HL.out,HX.out,if_neg hg]);have HX2:=zh (show ES r p=[] by rw[HM.out,HX.out,if_neg hg]);have q:(AE r.refs L !=0)=true:=by simpa using hg
  rw[HX1.out,HX2.out,HX.out];clear hg z1 z2
  go_enter Tryz.func148, Tryz.ntmps148
  go_wp2_with fail;refine Ha1.out.mono ?_;rintro e w2 ⟨v2,rfl,hv2,hb2⟩;obtain⟨a2,c2,rfl⟩:=hv2.vshape;have hR2:=hRn _ _ hR1 hb2;have y12:=y1 _ hR2;have Hr2:=zh (Hr.out Hri.out.rising _ _ (hRb _ hR2) (hv2.weaken fun _ _=>trivial));clear hv2 hb2 hR1;go_wp2_with fail;refine Hr2.out.mono ?_;rintro e w3 ⟨rfl,hb3⟩;have hR3:=hRn _ _ hR2 hb3;clear hb3;go_wp2_with fail;go_ret3;exact⟨_,_,rfl,Ai.nil _ _ _ _ (by omega),AB.nil _ _ _ _ (by omega),hRb _ hR3⟩
 have hok:=EY hg;have HX:=zh (show Bv r p=Ce r.refs L p.updates p.force by rw[HT2.out,if_neg (by simp[hg])]);have HX1:=zh (show Fp r p=if Ce r.refs L p.updates p.force=0 then L else[] by rw[HL.out,HX.out]);have HX2:=zh (show ES r p=Ey r.refs L p.updates p.force by
  rw[HM.out,HA.out,HP.out,←HTa2.out,HX.out];split<;>rfl)
 have Hm2:=zh (Hm.out hok Hri.out (by omega));rw[HX1.out,HX2.out,HX.out];rw[hg] at Hr;clear hg hok HT2 HTa2 HX HX1 HX2 HL HM HA HP Hm;by_cases hm:Ce r.refs L p.updates p.force=0
 case neg=>
  have q:(Ce r.refs L p.updates p.force !=0)=true:=by simpa using hm
  have Hnm:=zh (show Ey r.refs L p.updates p.force=[] by unfold Ey;rw[if_neg hm]);rw[if_neg hm];rw[Hnm.out] at Hm2⊢;clear hm
  go_enter Tryz.func148, Tryz.ntmps148
  go_wp2_with fail;refine Ha1.out.mono ?_;rintro e w2 ⟨v2,rfl,hv2,hb2⟩;obtain⟨a2,c2,rfl⟩:=hv2.vshape;have hR2:=hRn _ _ hR1 hb2;have y12:=y1 _ hR2;have Hr2:=zh (Hr.out Hri.out.rising _ _ (hRb _ hR2) (hv2.weaken fun _ _=>trivial));have HV2:=zh hv2;clear hv2 hb2 hR1;go_wp2_with fail;refine Hr2.out.mono ?_;rintro e w3 ⟨rfl,hb3⟩;have hR3:=hRn _ _ hR2 hb3;have y13:=y1 _ hR3;have z13:=z1 _ hR3;have z23:=z2 _ hR3;have Hm3:=zh (Hm2.out _ _ (hRb _ hR3) ((HV2.out.below hb3).weaken fun _ _=>trivial));clear hb3 y12;go_wp2_with fail;refine Hm3.out.mono ?_;rintro e w4 ⟨v4,rfl,hv4,hb4⟩;obtain⟨⟨p4,c4⟩,rfl⟩:=hv4.shape;have hR4:=hRn _ _ hR3 hb4;clear hv4 hb4;go_wp2_with fail;go_ret3;exact⟨_,_,rfl,Ai.nil _ _ _ _ (by omega),AB.nil _ _ _ _ (by omega),hRb _ hR4⟩
 rw[if_pos hm,hm];rw[hm] at Hm2;clear hm
 go_enter Tryz.func148, Tryz.ntmps148
 go_wp2_with fail;refine Ha1.out.mono ?_;rintro e w2 ⟨v2,rfl,hv2,hb2⟩;obtain⟨a2,c2,rfl⟩:=hv2.vshape;have hR2:=hRn _ _ hR1 hb2;have y12:=y1 _ hR2;have Hr2:=zh (Hr.out Hri.out.rising _ _ (hRb _ hR2) (hv2.weaken fun _ _=>trivial));have HV2:=zh hv2;clear hv2 hb2 hR1;go_wp2_with fail;refine Hr2.out.mono ?_;rintro e w3 ⟨rfl,hb3⟩;have hR3:=hRn _ _ hR2 hb3;have y13:=y1 _ hR3;have z13:=z1 _ hR3;have z23:=z2 _ hR3;have Hm3:=zh (Hm2.out _ _ (hRb _ hR3) ((HV2.out.below hb3).weaken fun _ _=>trivial));have HV3:=zh (HV2.out.below hb3);clear hb3 y12;go_wp2_with fail;refine Hm3.out.mono ?_;rintro e w4 ⟨v4,rfl,hv4,hb4⟩;obtain⟨⟨p4,c4⟩,rfl⟩:=hv4.shape;have hR4:=hRn _ _ hR3 hb4;have hs3:=(hRb _ hR3).size;have HX:=zh (And.intro ((HV3.out.below hb4).weaken (S':=fun b=>w.heap.size≤b) (fun b hb=>by simp only[World.size_alloc] at hb;omega)) (hv4.weaken (S':=fun b=>w.heap.size≤b) (fun b hb=>by omega)));clear hv4 hb4;go_wp2_with fail;go_ret3;exact⟨_,_,rfl,HX.out.1,HX.out.2,hRb _ hR4⟩
theorem Sm (r:Am) (p:BM) (sv rv ov uv ov2 uv2:Value) (S S1 S2 S3:Nat→Prop) (w:World) (hs:Ai S w sv r.store) (hr:AB S1 w rv r.refs) (ho:Ai S2 w ov p.objects) (hu:AJ S3 w uv p.updates) (hp:AP p.updates=0)
  (h2:(∃a n c,ov2=.slice a n c)∧∃a n c,uv2=.slice a n c):
  Calls Tryz.prog 148 #[.agg #[sv,rv,.int .i64 r.gen,.int .i64 r.phase,ov2,uv2,.bool r.pend.force],.agg #[ov,uv,.bool p.force]] w fun e w'=>SP w w' e (Fp r p) (ES r p) (Bv r p):=
 (Lh r p sv rv ov uv ov2 uv2 S S1 S2 S3 w hs hr ho hu hp h2).mono fun _ _ h=>h.e
theorem SH (r:Am) (p:BM) (sv rv ov uv ov2 uv2:Value) (S S1 S2 S3:Nat→Prop) (w:World) (hs:Ai S w sv r.store) (hr:AB S1 w rv r.refs) (ho:Ai S2 w ov p.objects) (hu:AJ S3 w uv p.updates)
  (h2:(∃a n c,ov2=.slice a n c)∧∃a n c,uv2=.slice a n c):
  Calls Tryz.prog 58 #[.agg #[sv,rv,.int .i64 r.gen,.int .i64 r.phase,ov2,uv2,.bool r.pend.force],.agg #[ov,uv,.bool p.force]] w fun e w'=>GY (fun b=>(S b∨S1 b∨S2 b)∨w.heap.size≤b) w w' e (Fp r p) (ES r p) (Bv r p):=by
 have Ha:=zh (fun x (hx:Below w.heap.size w x)=>WD r.store p.objects _ _ _ _ x (hs.below hx) (ho.below hx));have Hm:=zh (fun x v (hx:Below w.heap.size w x) (hv:Ai (fun _=>True) x v (CD r.store p.objects))=>SS r.refs (CD r.store p.objects) p.updates p.force _ _ _ _ _ _ x (hr.below hx) hv (hu.below hx));have HE:=zh (show Bv r p=if DE r.store p.objects≠0 then DE r.store p.objects else CQ r.refs (CD r.store p.objects) p.updates p.force from rfl);have HL:=zh (show Fp r p=if Bv r p=0 then CD r.store p.objects else[] from rfl);have HM:=zh (show ES r p=if Bv r p=0 then Ei r.refs (CD r.store p.objects) p.updates p.force else[] from rfl);have HP:=zh (show Ei r.refs (CD r.store p.objects) p.updates p.force=if CQ r.refs (CD r.store p.objects) p.updates p.force=0 then AL r.refs p.updates p.updates.length else[] from rfl);obtain⟨sa,sc,rfl⟩:=hs.vshape;obtain⟨⟨ra,rc⟩,rfl⟩:=hr.shape;obtain⟨oa,oc,rfl⟩:=ho.vshape;obtain⟨⟨ua,uc⟩,rfl⟩:=hu.shape;obtain⟨⟨oa2,on2,oc2,rfl⟩,⟨ua2,un2,uc2,rfl⟩⟩:=h2;obtain⟨R,hR,hR1,hy,hz⟩:=JD w #[.slice sa r.store.length sc,.slice ra r.refs.length rc,.int .i64 r.gen,.int .i64 r.phase,.slice oa2 on2 oc2,.slice ua2 un2 uc2,.bool r.pend.force] #[.slice oa p.objects.length oc,.slice ua p.updates.length uc,.bool p.force] 34 28;have y1:=hy 1 _ rfl;have z1:=hz 1 _ rfl;have z2:=hz 2 _ rfl;have hRb:=hR.below;have hRn:=hR.next
 clear hy hz hs hr ho hu;have Ha1:=zh (Ha.out _ (hRb _ hR1));by_cases ha:DE r.store p.objects=0
 case neg=>
  have HX:=zh (show Bv r p=DE r.store p.objects by rw[HE.out,if_pos ha]);have HX1:=zh (show Fp r p=[] by rw[HL.out,HX.out,if_neg ha]);have HX2:=zh (show ES r p=[] by rw[HM.out,HX.out,if_neg ha]);have q:(DE r.store p.objects !=0)=true:=by simpa using ha
  rw[HX1.out,HX2.out,HX.out];clear ha y1 z1 z2
  go_enter Tryz.func58, Tryz.ntmps58
  go_wp2_with fail;refine Ha1.out.mono ?_;rintro e w2 ⟨v2,rfl,hv2,hb2⟩;obtain⟨a2,c2,rfl⟩:=hv2.vshape;have hR2:=hRn _ _ hR1 hb2;clear hv2 hb2;go_wp2_with fail;go_ret3;exact⟨_,_,rfl,Ai.nil _ _ _ _ (by omega),AB.nil _ _ _ _ (by omega),hRb _ hR2⟩
 have HX:=zh (show Bv r p=CQ r.refs (CD r.store p.objects) p.updates p.force by rw[HE.out,if_neg (by simp[ha])]);have HX1:=zh (show Fp r p=if CQ r.refs (CD r.store p.objects) p.updates p.force=0 then CD r.store p.objects else[] by rw[HL.out,HX.out]);have HX2:=zh (show ES r p=Ei r.refs (CD r.store p.objects) p.updates p.force by rw[HM.out,HX.out];split;rfl;rename_i h;rw[HP.out,if_neg h]);rw[ha] at Ha1;rw[HX1.out,HX2.out,HX.out];clear ha HX HX1 HX2 HE HL HM;generalize CD r.store p.objects=L at*;by_cases hm:CQ r.refs L p.updates p.force=0
 case neg=>
  have q:(CQ r.refs L p.updates p.force !=0)=true:=by simpa using hm
  have Hnm:=zh (show Ei r.refs L p.updates p.force=[] by rw[HP.out,if_neg hm]);rw[if_neg hm];rw[Hnm.out] at Hm⊢;clear hm HP
  go_enter Tryz.func58, Tryz.ntmps58
  go_wp2_with fail;refine Ha1.out.mono ?_;rintro e w2 ⟨v2,rfl,hv2,hb2⟩;obtain⟨a2,c2,rfl⟩:=hv2.vshape;have hR2:=hRn _ _ hR1 hb2;have y13:=y1 _ hR2;have z13:=z1 _ hR2;have z23:=z2 _ hR2;have Hm3:=zh (Hm.out _ _ (hRb _ hR2) (hv2.weaken fun _ _=>trivial));clear hv2 hb2 hR1;go_wp2_with fail;refine Hm3.out.mono ?_;rintro e w4 ⟨v4,rfl,hv4,hb4⟩;obtain⟨⟨p4,c4⟩,rfl⟩:=hv4.shape;have hR4:=hRn _ _ hR2 hb4;clear hv4 hb4;go_wp2_with fail;go_ret3;exact⟨_,_,rfl,Ai.nil _ _ _ _ (by omega),AB.nil _ _ _ _ (by omega),hRb _ hR4⟩
 rw[if_pos hm,hm];rw[hm] at Hm;clear hm HP
 go_enter Tryz.func58, Tryz.ntmps58
 go_wp2_with fail;refine Ha1.out.mono ?_;rintro e w2 ⟨v2,rfl,hv2,hb2⟩;obtain⟨a2,c2,rfl⟩:=hv2.vshape;have hR2:=hRn _ _ hR1 hb2;have y13:=y1 _ hR2;have z13:=z1 _ hR2;have z23:=z2 _ hR2;have Hm3:=zh (Hm.out _ _ (hRb _ hR2) (hv2.weaken fun _ _=>trivial));have HV2:=zh hv2;clear hv2 hb2 hR1;go_wp2_with fail;refine Hm3.out.mono ?_;rintro e w4 ⟨v4,rfl,hv4,hb4⟩;obtain⟨⟨p4,c4⟩,rfl⟩:=hv4.shape;have hR4:=hRn _ _ hR2 hb4;have hs2:=(hRb _ hR2).size;have HX:=zh (And.intro ((HV2.out.below hb4).weaken (S':=(fun b=>(S b∨S1 b∨S2 b)∨w.heap.size≤b)) (fun b hb=>hb.elim (fun h=>h.elim (fun h=>.inl (.inl h)) (fun h=>.inl (.inr (.inr h)))) (fun h=>.inr (by simp only[World.size_alloc] at h;omega)))) (hv4.weaken (S':=(fun b=>(S b∨S1 b∨S2 b)∨w.heap.size≤b)) (fun b hb=>hb.elim (fun h=>.inl (.inr (.inl h))) (fun h=>.inr (by omega)))));clear hv4 hb4;go_wp2_with fail;go_ret3;exact⟨_,_,rfl,HX.out.1,HX.out.2,hRb _ hR4⟩
theorem Wc (r:Am) (p:BM) (sv rv ov uv ov2 uv2:Value) (S S1 S2 S3:Nat→Prop) (w:World) (hs:Ai S w sv r.store) (hr:AB S1 w rv r.refs) (ho:Ai S2 w ov p.objects) (hu:AJ S3 w uv p.updates)
  (h2:(∃a n c,ov2=.slice a n c)∧∃a n c,uv2=.slice a n c):
  Calls Tryz.prog 58 #[.agg #[sv,rv,.int .i64 r.gen,.int .i64 r.phase,ov2,uv2,.bool r.pend.force],.agg #[ov,uv,.bool p.force]] w fun e w'=>SP w w' e (Fp r p) (ES r p) (Bv r p):=
 (SH r p sv rv ov uv ov2 uv2 S S1 S2 S3 w hs hr ho hu h2).mono fun _ _ h=>h.e
variable [Ghost]
def Ar:Am:=⟨DL,Fm,7,0,CU⟩
structure Ax (S:Nat→Prop) (w:World) (r:Am) (sv rv ov uv:Value):Prop where
 store:Ai S w sv r.store
 refs:AB S w rv r.refs
 objs:Ai S w ov r.pend.objects
 upds:AJ S w uv r.pend.updates
 gen:Dy r.gen
 phase:Dy r.phase
theorem Ax.below {S:Nat→Prop} {w w':World} {r:Am} {sv rv ov uv:Value} (h:Ax S w r sv rv ov uv) (hb:Below w.heap.size w w'):Ax S w' r sv rv ov uv:=
 ⟨h.store.below hb,h.refs.below hb,h.objs.below hb,h.upds.below hb,h.gen,h.phase⟩
theorem Ax.weaken {S S':Nat→Prop} {w:World} {r:Am} {sv rv ov uv:Value} (h:Ax S w r sv rv ov uv) (hs:∀b,S b→S' b):Ax S' w r sv rv ov uv:=
 ⟨h.store.weaken hs,h.refs.weaken hs,h.objs.weaken hs,h.upds.weaken hs,h.gen,h.phase⟩
def AO (r:Am) (sv rv ov uv:Value):Value:=.agg #[sv,rv,.int .i64 r.gen,.int .i64 r.phase,ov,uv,.bool r.pend.force]
def Dn (p:BM) (ov uv:Value):Value:=.agg #[ov,uv,.bool p.force]
def Wx (w w':World) (e:Ending) (r:Am):Prop:=∃sv rv ov uv,e=.returned (AO r sv rv ov uv)∧Ax (fun b=>w.heap.size≤b) w' r sv rv ov uv∧Below w.heap.size w w'
def Wu (w w':World) (e:Ending) (p:BM):Prop:=∃ov uv,e=.returned (Dn p ov uv)∧Ai (fun b=>w.heap.size≤b) w' ov p.objects∧AJ (fun b=>w.heap.size≤b) w' uv p.updates∧Below w.heap.size w w'
def Bg (b:Nat) (v0 v1 v2 v3 v4 v5 v6:Value) (w:World):World:=((((((w.setCell ⟨b,0,none⟩ v0).setCell ⟨b,1,none⟩ v1).setCell ⟨b,2,none⟩ v2).setCell ⟨b,3,none⟩ v3).setCell ⟨b,4,none⟩ v4).setCell ⟨b,5,none⟩ v5).setCell ⟨b,6,none⟩ v6
theorem AZ {b:Nat} {v0 v1 v2 v3 v4 v5 v6 u0 u1 u2 u3 u4 u5 u6:Value} {t:TypeId} {w:World} (h0:w.heap[b]?=some (.cells #[u0,u1,u2,u3,u4,u5,u6] t (0,0))):
  (Bg b v0 v1 v2 v3 v4 v5 v6 w).heap[b]?=some (.cells #[v0,v1,v2,v3,v4,v5,v6] t (0,0)):=by
 have s0:(w.setCell ⟨b,0,none⟩ v0).heap[b]?=some (.cells #[v0,u1,u2,u3,u4,u5,u6] t (0,0)):=by have:=Ah (j:=0) h0 v0;simpa using this
 have s1:((w.setCell ⟨b,0,none⟩ v0).setCell ⟨b,1,none⟩ v1).heap[b]?=some (.cells #[v0,v1,u2,u3,u4,u5,u6] t (0,0)):=by have:=Ah (j:=1) s0 v1;simpa using this
 have s2:(((w.setCell ⟨b,0,none⟩ v0).setCell ⟨b,1,none⟩ v1).setCell ⟨b,2,none⟩ v2).heap[b]?=some (.cells #[v0,v1,v2,u3,u4,u5,u6] t (0,0)):=by have:=Ah (j:=2) s1 v2;simpa using this
 have s3:((((w.setCell ⟨b,0,none⟩ v0).setCell ⟨b,1,none⟩ v1).setCell ⟨b,2,none⟩ v2).setCell ⟨b,3,none⟩ v3).heap[b]?=some (.cells #[v0,v1,v2,v3,u4,u5,u6] t (0,0)):=by have:=Ah (j:=3) s2 v3;simpa using this
 have s4:(((((w.setCell ⟨b,0,none⟩ v0).setCell ⟨b,1,none⟩ v1).setCell ⟨b,2,none⟩ v2).setCell ⟨b,3,none⟩ v3).setCell ⟨b,4,none⟩ v4).heap[b]?=some (.cells #[v0,v1,v2,v3,v4,u5,u6] t (0,0)):=by have:=Ah (j:=4) s3 v4;simpa using this
 have s5:((((((w.setCell ⟨b,0,none⟩ v0).setCell ⟨b,1,none⟩ v1).setCell ⟨b,2,none⟩ v2).setCell ⟨b,3,none⟩ v3).setCell ⟨b,4,none⟩ v4).setCell ⟨b,5,none⟩ v5).heap[b]?=some (.cells #[v0,v1,v2,v3,v4,v5,u6] t (0,0)):=by have:=Ah (j:=5) s4 v5;simpa using this
 have s6:(((((((w.setCell ⟨b,0,none⟩ v0).setCell ⟨b,1,none⟩ v1).setCell ⟨b,2,none⟩ v2).setCell ⟨b,3,none⟩ v3).setCell ⟨b,4,none⟩ v4).setCell ⟨b,5,none⟩ v5).setCell ⟨b,6,none⟩ v6).heap[b]?=some (.cells #[v0,v1,v2,v3,v4,v5,v6] t (0,0)):=by have:=Ah (j:=6) s5 v6;simpa using this
 exact s6
theorem AM (b:Nat) (v0 v1 v2 v3 v4 v5 v6:Value) (w:World):AK (fun x=>x=b) w (Bg b v0 v1 v2 v3 v4 v5 v6 w):=
 AK.setCell (T:=fun x=>x=b) (AK.setCell (T:=fun x=>x=b) (AK.setCell (T:=fun x=>x=b) (AK.setCell (T:=fun x=>x=b) (AK.setCell (T:=fun x=>x=b) (AK.setCell (T:=fun x=>x=b) (AK.setCell (T:=fun x=>x=b) (AK.refl (fun x=>x=b) w) (fun _=>rfl) v0) (fun _=>rfl) v1) (fun _=>rfl) v2) (fun _=>rfl) v3) (fun _=>rfl) v4) (fun _=>rfl) v5) (fun _=>rfl) v6
theorem Ai.upd' {T S:Nat→Prop} {w w':World} {v:Value} {l:List Obj} (h:Ai S w v l) (hu:AK T w w') (hT:∀b,S b→¬T b):Ai S w' v l:=by
 have:=(h.lt).same (w':=w') fun b hb=>hu.block b hb.2 (hT b hb.1)
 exact this.weaken fun b hb=>hb.1
theorem AB.lt {S:Nat→Prop} {w:World} {v:Value} {l:List Rf} (h:AB S w v l):AB (fun b=>S b∧b<w.heap.size) w v l:=by
 obtain⟨⟨a,cap,hv,h1,h2,h3,h4⟩,h5⟩:=h;refine⟨⟨a,cap,hv,h1,h2,h3,fun hn=>?_⟩,h5⟩;obtain⟨b,off,ha,hS,hc⟩:=h4 hn;exact⟨b,off,ha,⟨⟨hS.1,World.block_lt_of_cell? w _ (hc 0 hn 0 _ rfl)⟩,hS.2⟩,hc⟩
theorem AB.upd {T S:Nat→Prop} {w w':World} {v:Value} {l:List Rf} (h:AB S w v l) (hu:AK T w w') (hT:∀b,S b→¬T b):AB S w' v l:=by
 have:=(h.lt).same (w':=w') fun b hb=>hu.block b hb.2 (hT b hb.1)
 exact this.weaken fun b hb=>hb.1
theorem AJ.lt {S:Nat→Prop} {w:World} {v:Value} {l:List Mv} (h:AJ S w v l):AJ (fun b=>S b∧b<w.heap.size) w v l:=by
 obtain⟨⟨a,cap,hv,h1,h2,h3,h4⟩,h5⟩:=h;refine⟨⟨a,cap,hv,h1,h2,h3,fun hn=>?_⟩,h5⟩;obtain⟨b,off,ha,hS,hc⟩:=h4 hn;exact⟨b,off,ha,⟨⟨hS.1,World.block_lt_of_cell? w _ (hc 0 hn 0 _ rfl)⟩,hS.2⟩,hc⟩
theorem AJ.upd {T S:Nat→Prop} {w w':World} {v:Value} {l:List Mv} (h:AJ S w v l) (hu:AK T w w') (hT:∀b,S b→¬T b):AJ S w' v l:=by
 have:=(h.lt).same (w':=w') fun b hb=>hu.block b hb.2 (hT b hb.1)
 exact this.weaken fun b hb=>hb.1
theorem GM (w:World):Calls Tryz.prog 28 #[] w fun e w'=>Wx w w' e Ar:=by
 obtain⟨R,hR,hR1,hy⟩:=BO w #[.slice none 0 0,.slice none 0 0,.int .i64 0,.int .i64 0,.slice none 0 0,.slice none 0 0,.bool false] 34;have hRb:=hR.below;have hRn:=hR.next
 clear hy
 go_enter Tryz.func28, Tryz.ntmps28
 go_wp2_with fail;refine(Mf _).mono ?_;rintro e w1 ⟨v1,rfl,hv1,hb1⟩;obtain⟨a1,c1,rfl⟩:=hv1.vshape;have hR2:=hRn _ _ hR1 hb1;have Hv1:=zh hv1;have Hb1:=zh hb1;clear hv1 hb1;go_wp2_with fail;refine(PP _).mono ?_;rintro e w2 ⟨v2,rfl,hv2,hb2⟩;obtain⟨⟨p2,c2⟩,rfl⟩:=hv2.shape;have hR3:=hRn _ _ hR2 hb2;have hblk:w2.heap[w.heap.size]?=some (.cells #[.slice none 0 0,.slice none 0 0,.int .i64 0,.int .i64 0,.slice none 0 0,.slice none 0 0,.bool false] 34 (0,0)):=
  (hb2.block _ (Nat.lt_of_lt_of_le (by simp) Hb1.out.size)).trans ((Hb1.out.block _ (by simp)).trans (heap_alloc_new w _))
 obtain⟨g0,g1,g2,g3,g4,g5,g6⟩:=bc7 hblk;obtain⟨f0,f1,f2,f3,f4,f5,f6⟩:=bf7 hblk;have Hv2:=zh hv2;have Hb2:=zh hb2;clear hv2 hb2;go_wp2_with fail;change bodyPost _ _ _ _ _ (Bg w.heap.size (.slice a1 DL.length c1) (.slice p2 Fm.length c2) (.int .i64 7) (.int .i64 0) (.slice none 0 0) (.slice none 0 0) (.bool false) w2);have hb7:=AZ (v0:=.slice a1 DL.length c1) (v1:=.slice p2 Fm.length c2) (v2:=.int .i64 7) (v3:=.int .i64 0) (v4:=.slice none 0 0) (v5:=.slice none 0 0) (v6:=.bool false) hblk;have hu7:=AM w.heap.size (.slice a1 DL.length c1) (.slice p2 Fm.length c2) (.int .i64 7) (.int .i64 0) (.slice none 0 0) (.slice none 0 0) (.bool false) w2;generalize Bg w.heap.size (.slice a1 DL.length c1) (.slice p2 Fm.length c2) (.int .i64 7) (.int .i64 0) (.slice none 0 0) (.slice none 0 0) (.bool false) w2=w7 at*;obtain⟨k0,k1,k2,k3,k4,k5,k6⟩:=bc7 hb7;have hs1:=Hb1.out.size;have hs2:=Hb2.out.size;simp only[World.size_alloc] at hs1;refine bodyPost_ret (v:=AO Ar (.slice a1 DL.length c1) (.slice p2 Fm.length c2) (.slice none 0 0) (.slice none 0 0)) (by simp[results,Tryz.results28,go_sem];simp[k0,k1,k2,k3,k4,k5,k6];rfl) rfl ⟨_,_,_,_,rfl,⟨?_,?_,Ai.nil _ _ _ _ (by omega),AJ.nil _ _ _ _ (by omega),by unfold Dy;decide,by unfold Dy;decide⟩,?_⟩
 ·exact((Hv1.out.below Hb2.out).upd' hu7 (fun b hb e=>by simp at hb;omega)).weaken fun b hb=>by simp at hb;omega
 ·exact(Hv2.out.upd hu7 (fun b hb e=>by omega)).weaken fun b hb=>by omega
 ·exact(hRb _ hR3).trans (hu7.below (B:=w.heap.size) (by omega) (fun b hb=>by omega))
def SB (b:Nat) (v0 v1 v2:Value) (w:World):World:=((w.setCell ⟨b,0,none⟩ v0).setCell ⟨b,1,none⟩ v1).setCell ⟨b,2,none⟩ v2
theorem QQ {b:Nat} {v0 v1 v2 u0 u1 u2:Value} {t:TypeId} {w:World} (h0:w.heap[b]?=some (.cells #[u0,u1,u2] t (0,0))):
  (SB b v0 v1 v2 w).heap[b]?=some (.cells #[v0,v1,v2] t (0,0)):=by
 have s0:(w.setCell ⟨b,0,none⟩ v0).heap[b]?=some (.cells #[v0,u1,u2] t (0,0)):=by have:=Ah (j:=0) h0 v0;simpa using this
 have s1:((w.setCell ⟨b,0,none⟩ v0).setCell ⟨b,1,none⟩ v1).heap[b]?=some (.cells #[v0,v1,u2] t (0,0)):=by have:=Ah (j:=1) s0 v1;simpa using this
 have s2:(((w.setCell ⟨b,0,none⟩ v0).setCell ⟨b,1,none⟩ v1).setCell ⟨b,2,none⟩ v2).heap[b]?=some (.cells #[v0,v1,v2] t (0,0)):=by have:=Ah (j:=2) s1 v2;simpa using this
 exact s2
theorem OD (b:Nat) (v0 v1 v2:Value) (w:World):AK (fun x=>x=b) w (SB b v0 v1 v2 w):=
 AK.setCell (T:=fun x=>x=b) (AK.setCell (T:=fun x=>x=b) (AK.setCell (T:=fun x=>x=b) (AK.refl (fun x=>x=b) w) (fun _=>rfl) v0) (fun _=>rfl) v1) (fun _=>rfl) v2
theorem QB (w:World) (l:List Mv) (t:TypeId) (N:Nat) (hN:N=w.heap.size) (hl:l.length*32≤140737488351232) (h:∀u∈l,Dy u.old∧Dy u.new∧u.name.size≤140737488351232):
  AJ (fun b=>b=N) (w.alloc (.cells (AN (fun i=>Bw (mv l i)) l.length).toArray t)) (.slice (some ⟨N,0,none⟩) l.length l.length) l:=
 ⟨TV w _ 3 32 _ t N hN (fun _ _=>rfl) hl (by omega),h⟩
end Go.Proofs.YtgbnlmplkealdaaGreatDoor
namespace Go.Proofs.YtgbnlmplkealdaaGreatDoor
variable [Ghost]
def NU (m:List Obj) (o:Obj):Bool:=!CO m o.id
def Jn (l m:List Obj):List Obj:=l.filter (NU m)
def Dh (l m:List Obj) (k:Nat):List Obj:=(l.take k).filter (NU m)
def Ef (l m:List Obj) (k:Nat):Int:=if CO m (obj l k).id=true∧BG (obj l k) (obj m (lo m (obj l k).id))=false then 6 else 0
def Es (l m:List Obj):Int:=An (Ef l m) l.length
def CE (l m:List Obj):List Obj:=if Es l m=0 then Jn l m else[]
def Ur (l m:List Obj):Int:=if Aj l≠0 then Aj l else if Aj m≠0 then Aj m else Es l m
def ZE (l m:List Obj):List Obj:=if Ur l m=0 then Jn l m else[]
theorem Sd (l m:List Obj):Dh l m 0=[]:=rfl
theorem Lc {l m:List Obj} {k:Nat} (hk:k<l.length) (h:CO m (obj l k).id=true):Dh l m (k+1)=Dh l m k:=by
 unfold Dh NU;rw[GB hk,List.filter_append];simp[h]
theorem Oc {l m:List Obj} {k:Nat} (hk:k<l.length) (h:CO m (obj l k).id=false):Dh l m (k+1)=Dh l m k++[obj l k]:=by
 unfold Dh NU;rw[GB hk,List.filter_append];simp[h]
theorem Ob (l m:List Obj):Dh l m l.length=Jn l m:=by unfold Dh Jn;rw[List.take_length]
theorem JZ (l m:List Obj) (k:Nat):(Dh l m k).length≤k:=by
 unfold Dh;have h1:=List.length_filter_le (NU m) (l.take k);rw[List.length_take] at h1;omega
theorem Iq (l m:List Obj):(Jn l m).length≤l.length:=List.length_filter_le _ _
theorem RZ {l m:List Obj} {x:Obj}:x∈Jn l m↔x∈l∧CO m x.id=false:=by
 unfold Jn NU;rw[List.mem_filter];simp
theorem Mw {l m:List Obj} {k:Nat} (h:CO m (obj l k).id=false):Ef l m k=0:=by unfold Ef;rw[if_neg (by simp[h])]
theorem Lb {l m:List Obj} {k:Nat} (h:BG (obj l k) (obj m (lo m (obj l k).id))=true):Ef l m k=0:=by unfold Ef;rw[if_neg (by simp[h])]
theorem JY {l m:List Obj} {k:Nat} (h:CO m (obj l k).id=true) (h2:BG (obj l k) (obj m (lo m (obj l k).id))=false):Ef l m k=6:=by unfold Ef;rw[if_pos ⟨h,h2⟩]
theorem PT {l m:List Obj}:Es l m=0↔∀x∈l,CO m x.id=true→obj m (lo m x.id)=x:=by
 unfold Es;constructor
 ·intro h x hx hat
  obtain⟨i,hi,rfl⟩:=Io hx;have:=Bn h i hi;cases hs:BG (obj l i) (obj m (lo m (obj l i).id))
  ·rw[JY hat hs] at this;cases this
  ·exact((DK _ _).1 hs).symm
 ·intro h
  refine Bd fun k hk=>?_
  cases hat:CO m (obj l k).id
  ·exact Mw hat
  ·exact Lb ((DK _ _).2 (h _ (Gg hk) hat).symm)
theorem Zb {l:List Obj} (h:Aj l=0) {x:Obj} (hx:x∈l) {k:Nat} (hk:k<x.links.length):∃y∈l,y.id<x.id∧y.id=Ct x.links k∧Bk x k y.kind=0:=by
 obtain⟨i,hi,rfl⟩:=Io hx;obtain⟨j,hj,hid,hk2⟩:=(GR h).linked hi hk;exact⟨obj l j,Gg (by omega),AS h j i hj hi,hid,hk2⟩
theorem ZT {u v:Mv} (h1:u.name=v.name) (h2:u.old=v.old) (h3:u.new=v.new):u=v:=by cases u;cases v;cases h1;cases h2;cases h3;rfl
end Go.Proofs.YtgbnlmplkealdaaGreatDoor
namespace Go.Proofs.YtgbnlmplkealdaaGreatDoor
open Go.RowKit
variable [Ghost]
theorem Tryz.infoUpd:(Tryz.prog.info? 88).map (fun i=>(i.zero,i.size,i.bytes))=some (some (.agg #[.string ⟨#[]⟩,.int .i64 0,.int .i64 0]),3,32):=by kernel_rfl
def ZK (u:Mv):Prop:=Dy u.old∧Dy u.new∧u.name.size≤140737488351232
def GE (B:Nat) (w:World) (v:Value) (l:List Mv):Prop:=
 w.ownsRow B 88 3 v l.length (AN (fun i=>Bw (mv l i)) l.length)∧∀r∈l,ZK r
theorem GE.nil (B:Nat) (w:World):GE B w (.slice none 0 0) []:=⟨World.ownsRow_nil _ _ _ _,fun r h=>by cases h⟩
theorem GE.below {B:Nat} {w w':World} {v:Value} {l:List Mv} (h:GE B w v l) (hb:Below w.heap.size w w'):GE B w' v l:=⟨DR h.1 hb,h.2⟩
theorem GE.shape {B:Nat} {w:World} {v:Value} {l:List Mv} (h:GE B w v l):∃a c,v=.slice a l.length c:=JH h.1
theorem GE.block {B:Nat} {w:World} {v:Value} {l:List Mv} (h:GE B w v l) {g:Nat} (hg:v.ownBlock=some g):B≤g∧g<w.heap.size:=h.1.lt g hg
theorem GE.mvs {B:Nat} {w:World} {v:Value} {l:List Mv} (h:GE B w v l) (hl:l.length*32≤140737488351232):AJ (fun b=>B≤b∧v.ownBlock=some b) w v l:=
 ⟨Iu h.1 (fun g hg=>⟨(h.block hg).1,hg⟩) hl (fun i hi j u hu=>CJ (cs:=fun i=>Bw (mv l i)) (fun _ _=>rfl) i hi j u hu),h.2⟩
theorem XQ (r:Mv):∀u∈Bw r,u.oneCell'=true:=by
 intro u hu;simp only[Bw,List.mem_cons,List.not_mem_nil,or_false] at hu;rcases hu with rfl|rfl|rfl<;>rfl
variable [Ghost]
def Iw (a b:Mv):Bool:=(a.name.toList==b.name.toList) && (a.old==b.old) && (a.new==b.new)
theorem OA (a b:Mv):Iw a b=true↔a=b:=by
 unfold Iw;simp only[Bool.and_eq_true,beq_iff_eq];constructor
 ·rintro⟨⟨h1,h2⟩,h3⟩
  exact ZT (by have:=(BL a.name b.name);rw[h1] at this;simpa using this) h2 h3
 ·rintro rfl;exact⟨⟨rfl,rfl⟩,rfl⟩
theorem TO (a b:Mv) (w:World):(binOp .neq 88 (.agg #[.string a.name,.int .i64 a.old,.int .i64 a.new]) (.agg #[.string b.name,.int .i64 b.old,.int .i64 b.new])).run Tryz.prog w=.ok (.bool !Iw a b) w:=by
 have hS:Tryz.prog.underlying 88=some (.struct (Tryz.prog.fieldsOf 88)):=by kernel_rfl
 have hp:Tryz.prog.stoodInHeld 88=false:=by kernel_rfl
 have u9:=Tryz.underlying9;have u3:=Tryz.underlying3;rw[run_neq_struct,show(10000:Nat)=9999+1 from rfl,run_equalIn_agg w 9999 88 _ _ hS hp];simp only[Program.fieldsOf,Tryz.underlying88];unfold Iw;go_simp;by_cases h1:a.name.toList=b.name.toList<;>by_cases h2:a.old=b.old<;>by_cases h3:a.new=b.new<;>simp[h1,h2,h3]
def DS (xs ys:List Mv):Bool:=decide (xs.length=ys.length) && (List.range xs.length).all fun k=>Iw (mv xs k) (mv ys k)
theorem ME (xs ys:List Mv):DS xs ys=true↔xs=ys:=by
 unfold DS;simp only[Bool.and_eq_true,decide_eq_true_eq,List.all_eq_true,List.mem_range,OA];constructor
 ·rintro⟨h1,h2⟩
  apply List.ext_getElem h1
  intro i hi hi2;have:=h2 i hi
  rwa [Da hi,Da hi2] at this
 ·rintro rfl;exact⟨rfl,fun _ _=>rfl⟩
theorem Sy {xs ys:List Mv} (h:xs.length≠ys.length):DS xs ys=false:=by unfold DS;simp[h]
theorem TQ {xs ys:List Mv} {k:Nat} (hk:k<xs.length) (h:Iw (mv xs k) (mv ys k)=false):DS xs ys=false:=by
 cases e:DS xs ys
 ·rfl
 ·rw[ME] at e
  subst e;rw[(OA _ _).2 rfl] at h;cases h
theorem Sx {xs ys:List Mv} (hl:xs.length=ys.length) (h:∀k,k<xs.length→Iw (mv xs k) (mv ys k)=true):DS xs ys=true:=by
 unfold DS;simp only[Bool.and_eq_true,decide_eq_true_eq,List.all_eq_true,List.mem_range];exact⟨hl,h⟩
theorem MV (xs ys:List Mv) (v v':Value) (S S':Nat→Prop) (w:World) (h1:AJ S w v xs) (h2:AJ S' w v' ys):
  Calls Tryz.prog 42 #[v,v'] w fun e w'=>e=.returned (.bool (DS xs ys))∧Below w.heap.size w w':=by
 obtain⟨a,n,cap,HN,rfl,hc1,hc2,hc8,hc⟩:=h1.open;obtain⟨a',n',cap',HN',rfl,hc1',hc2',hc8',hc'⟩:=h2.open;obtain⟨R,hR,hR1,_⟩:=Av w;have hRb:=hR.below;have hRn:=hR.drewN;by_cases hl:n=n'
 ·subst hl
  have Hall:=zh (Sx (xs:=xs) (ys:=ys) (by rw[←HN.out,←HN'.out]))
  go_enter Tryz.func42, Tryz.ntmps42
  go_wp2;go_loopw [5] (fun i wr=>∃k:Nat,k≤n∧i=.int .i64 k∧Hid (∀j,j<k→Iw (mv xs j) (mv ys j)=true)∧In R wr) (fun i _=>n-(intOf i).toNat)
  case atStart=>exact⟨0,by omega,rfl,fun j hj=>absurd hj (by omega),hR1⟩
  obtain⟨k,hk,rfl,Hs,hRw⟩:=hrel;clear hR1;by_cases hlt:k<n
  ·obtain⟨b,off,rfl,hb,k0,k1,k2⟩:=hc (by omega)
   obtain⟨b',off',rfl,hb',k0',k1',k2'⟩:=hc' (by omega);have x0:∀x,In R x→x.cell? ⟨b,off+k*3,none⟩=some (.string (mv xs k).name):=fun x hx=>k0 k x hlt (hRb x hx)
   have x1:∀x,In R x→x.cell? ⟨b,off+k*3+1,none⟩=some (.int .i64 (mv xs k).old):=fun x hx=>k1 k x hlt (hRb x hx)
   have x2:∀x,In R x→x.cell? ⟨b,off+k*3+2,none⟩=some (.int .i64 (mv xs k).new):=fun x hx=>k2 k x hlt (hRb x hx)
   have x0':∀x,In R x→x.cell? ⟨b',off'+k*3,none⟩=some (.string (mv ys k).name):=fun x hx=>k0' k x hlt (hRb x hx)
   have x1':∀x,In R x→x.cell? ⟨b',off'+k*3+1,none⟩=some (.int .i64 (mv ys k).old):=fun x hx=>k1' k x hlt (hRb x hx)
   have x2':∀x,In R x→x.cell? ⟨b',off'+k*3+2,none⟩=some (.int .i64 (mv ys k).new):=fun x hx=>k2' k x hlt (hRb x hx)
   clear hc hc' k0 k1 k0' k1' k2 k2';have hi1:=zk k;have hi2:(k:Int)<(n:Int):=by omega
   have hneq:=TO (mv xs k) (mv ys k);cases he:Iw (mv xs k) (mv ys k)
   ·rw[he] at hneq
    have Hq:=zh (TQ (xs:=xs) (ys:=ys) (k:=k) (by rw[←HN.out];exact hlt) he);clear he;go_wp2_with fail;go_quiet (fail);go_wp2;go_ret;exact⟨by rw[Hq.out];rfl,hRb _ (hRn _ _ hRw)⟩
   ·rw[he] at hneq
    have He:=zh he;clear he;go_wp2_with fail;go_quiet (fail);go_wp2;go_roundw
    case rel=>exact⟨k+1,by omega,by go_num,By Hs.out He.out,hRn _ _ hRw⟩
    case measure=>simp[intOf];omega
  ·have Hk:=zh (show DS xs ys=true from Hall.out (fun j hj=>Hs.out j (by have:=HN.out;omega)))
   go_wp2;go_ret;exact⟨by rw[Hk.out];rfl,hRb _ hRw⟩
 ·have Hl:=zh (Sy (xs:=xs) (ys:=ys) (by rw[←HN.out,←HN'.out];exact hl))
  go_enter Tryz.func42, Tryz.ntmps42
  go_wp2;go_ret;exact⟨by rw[Hl.out];rfl,hRb _ hR1⟩
end Go.Proofs.YtgbnlmplkealdaaGreatDoor
