
/- CluA: CluA, CluB, KH, QU. -/
import Derived.Test.YtgbnlmplkealdaaGreatDoorC17
set_option linter.all false
set_option maxHeartbeats 4000000
set_option maxRecDepth 100000
namespace Go.Proofs.YtgbnlmplkealdaaGreatDoor
open Go.RowKit
variable [Ghost]
theorem Ai.bytes {S:Nat→Prop} {w:World} {v:Value} {l:List Obj} (h:Ai S w v l):l.length*56≤140737488351232:=
 let⟨_,⟨_,_,_,_,_,h3,_⟩,_⟩:=h;h3
def Ul (S:Nat→Prop) (w:World) (p:BM) (ov uv:Value):Prop:=Ai S w ov p.objects∧AJ S w uv p.updates
theorem Ul.below {S:Nat→Prop} {w w':World} {p:BM} {ov uv:Value} (h:Ul S w p ov uv) (hb:Below w.heap.size w w'):Ul S w' p ov uv:=⟨h.1.below hb,h.2.below hb⟩
theorem My (p:BM) (ov uv:Value) (S S1:Nat→Prop) (w:World) (ho:Ai S w ov p.objects) (hu:AJ S1 w uv p.updates):
  Calls Tryz.prog 91 #[Dn p ov uv] w fun e w'=>Wu w w' e p:=by
 have H:=zh (And.intro ho hu);obtain⟨oa,oc,rfl⟩:=ho.vshape;obtain⟨⟨ua,uc⟩,rfl⟩:=hu.shape;have h56:=ho.bytes;have h32:=hu.bytes;clear ho hu;simp only[Dn];obtain⟨Q,hQ,hQ1,HB0⟩:=AF w [.cells #[.slice oa p.objects.length oc,.slice ua p.updates.length uc,.bool p.force] 28,.cells #[.slice none 0 0,.slice none 0 0,.bool false] 28];simp only[List.foldl] at hQ1;have hQn:=hQ.next
 have hQb:=hQ.below;have HZ:=zh (fun x (hx:In Q x)=>HB0 x hx 1 _ rfl);have HN:=zh (fun x (hx:In Q x)=>show w.heap.size+2≤x.heap.size from lt_of_block (HB0 x hx 1 _ rfl));have HS:∀x,In Q x→(fun x:World=>x.cell? ⟨w.heap.size,0,none⟩=some (.slice oa p.objects.length oc)∧x.cell? ⟨w.heap.size,1,none⟩=some (.slice ua p.updates.length uc)∧x.cell? ⟨w.heap.size,2,none⟩=some (.bool p.force)) x:=fun x hx=>⟨Aa (j:=0) (HB0 x hx 0 _ rfl) rfl,Aa (j:=1) (HB0 x hx 0 _ rfl) rfl,Aa (j:=2) (HB0 x hx 0 _ rfl) rfl⟩
 have HA:=zh (fun x (hx:In Q x)=>Iz p.objects _ _ x (H.out.1.below (hQb _ hx)));have HU:=zh (fun x (hx:In Q x)=>KL p.updates _ _ x (H.out.2.below (hQb _ hx)));clear HB0
 go_enter Tryz.func91, Tryz.ntmps91
 go_wp2_with fail;refine rh (fun x:World=>x.cell? ⟨w.heap.size,0,none⟩=some (.slice oa p.objects.length oc)∧x.cell? ⟨w.heap.size,1,none⟩=some (.slice ua p.updates.length uc)∧x.cell? ⟨w.heap.size,2,none⟩=some (.bool p.force)) ?_;have hC0:=hQ.drew _ hQ1;generalize ((w.alloc _).alloc _).drew=x0 at hC0⊢;clear hQ1;have hS0:=HS _ hC0;refine tk 0 (.pointer (some ⟨w.heap.size,0,none⟩)) (fun w hSw=>?_) hS0 ?_
 ·go_simp
 simp only[tkS];refine tk 1 (.slice oa p.objects.length oc) (fun w hSw=>?_) hS0 ?_
 ·have yy:=hSw.1;go_simp
 simp only[tkS];refine tk 3 (.pointer (some ⟨w.heap.size,1,none⟩)) (fun w hSw=>?_) hS0 ?_
 ·go_simp
 simp only[tkS];refine tk 4 (.slice ua p.updates.length uc) (fun w hSw=>?_) hS0 ?_
 ·have yy:=hSw.2.1;go_simp
 simp only[tkS];refine tk 6 (.pointer (some ⟨w.heap.size,2,none⟩)) (fun w hSw=>?_) hS0 ?_
 ·go_simp
 simp only[tkS];refine tk 7 (.bool p.force) (fun w hSw=>?_) hS0 ?_
 ·have yy:=hSw.2.2;go_simp
 simp only[tkS];refine al1 2 ?_;refine Or.inl ?_;go_wp2_with fail;refine(HA.out _ hC0).mono ?_;rintro e x1 ⟨vA,rfl,hvA,hb2⟩;have hC1:=hQn _ _ hC0 hb2;have hs0:=HN.out _ hC0;obtain⟨a1,c1,rfl⟩:=hvA.gath.shape;have HvA:=zh ((hvA.store h56).weaken (S':=fun b=>w.heap.size+2≤b) (fun b hb=>by omega));clear hvA;clear hb2;have hS1:=HS _ hC1;go_simp;refine al1 5 ?_;refine Or.inl ?_;go_wp2_with fail;refine(HU.out _ hC1).mono ?_;rintro e x2 ⟨vU,rfl,hvU,hb5⟩;have hC2:=hQn _ _ hC1 hb5;have hs1:=HN.out _ hC1;obtain⟨a2,c2,rfl⟩:=hvU.shape;have HvU:=zh ((hvU.mvs h32).weaken (S':=fun b=>w.heap.size+2≤b) (fun b hb=>by omega));clear hvU;replace HvA:=zh (HvA.out.below hb5);clear hb5;have hS2:=HS _ hC2;go_simp;refine al1 8 ?_;refine Or.inl ?_;go_simp;refine al1 9 ?_;refine Or.inl ?_;have hblk:=HZ.out _ hC2;obtain⟨g0,g1,g2⟩:=bc3 hblk;obtain⟨f0,f1,f2⟩:=bf3 hblk;have hb3:=QQ (v0:=.slice a1 p.objects.length c1) (v1:=.slice a2 p.updates.length c2) (v2:=.bool p.force) hblk;have hu3:=OD (w.heap.size+1) (.slice a1 p.objects.length c1) (.slice a2 p.updates.length c2) (.bool p.force) x2;have Hb3:=zh hb3;have Hu3:=zh hu3;clear hb3 hu3;go_wp2_with fail;refine⟨by kernel_rfl,?_⟩;change Exit.then _ _ _ _ (SB (w.heap.size+1) (.slice a1 p.objects.length c1) (.slice a2 p.updates.length c2) (.bool p.force) x2)
 have hb3:=Hb3.out;have hu3:=Hu3.out;clear Hb3 Hu3;generalize SB (w.heap.size+1) (.slice a1 p.objects.length c1) (.slice a2 p.updates.length c2) (.bool p.force) x2=w3 at*;obtain⟨k0,k1,k2⟩:=bc3 hb3;clear g0 g1 g2 f0 f1 f2 hblk hb3;have hsz:=(hQb _ hC2).size;have hB3:Below w.heap.size w w3:=(hQb _ hC2).trans (hu3.below (B:=w.heap.size) hsz (fun b hb=>by omega));go_wp2_with fail;refine bodyPost_ret (v:=.agg #[.slice a1 p.objects.length c1,.slice a2 p.updates.length c2,.bool p.force]) (by simp[results,Tryz.results91,go_sem];simp[k0,k1,k2]<;>rfl) rfl ?_;exact⟨_,_,rfl,(HvA.out.upd' hu3 (fun b hb e=>by omega)).weaken fun b hb=>by omega,(HvU.out.upd hu3 (fun b hb e=>by omega)).weaken fun b hb=>by omega,hB3⟩
theorem Ot (r:Am) (sv rv ov uv:Value) (S:Nat→Prop) (w:World) (h:Ax S w r sv rv ov uv):
  Calls Tryz.prog 65 #[AO r sv rv ov uv] w fun e w'=>Wx w w' e r:=by
 have H:=zh h;have h56:=h.store.bytes;have h24:=h.refs.bytes;obtain⟨sa,sc,rfl⟩:=h.store.vshape;obtain⟨⟨ra,rc⟩,rfl⟩:=h.refs.shape;obtain⟨oa,oc,rfl⟩:=h.objs.vshape;obtain⟨⟨ua,uc⟩,rfl⟩:=h.upds.shape;clear h;simp only[AO];obtain⟨Q,hQ,hQ1,HB0⟩:=AF w [.cells (c7 r sa sc ra rc oa oc ua uc) 34,.cells z7 34];simp only[List.foldl] at hQ1;have hQn:=hQ.next
 have hQb:=hQ.below;have HZ:=zh (fun x (hx:In Q x)=>HB0 x hx 1 _ rfl);have HN:=zh (fun x (hx:In Q x)=>show w.heap.size+2≤x.heap.size from lt_of_block (HB0 x hx 1 _ rfl));have HS:∀x,In Q x→(fun x:World=>x.cell? ⟨w.heap.size,0,none⟩=some (.slice sa r.store.length sc)∧x.cell? ⟨w.heap.size,1,none⟩=some (.slice ra r.refs.length rc)∧x.cell? ⟨w.heap.size,2,none⟩=some (.int .i64 r.gen)∧x.cell? ⟨w.heap.size,3,none⟩=some (.int .i64 r.phase)∧x.cell? ⟨w.heap.size,4,none⟩=some (.slice oa r.pend.objects.length oc)∧x.cell? ⟨w.heap.size,5,none⟩=some (.slice ua r.pend.updates.length uc)∧x.cell? ⟨w.heap.size,6,none⟩=some (.bool r.pend.force)) x:=fun x hx=>⟨Aa (j:=0) (HB0 x hx 0 _ rfl) rfl,Aa (j:=1) (HB0 x hx 0 _ rfl) rfl,Aa (j:=2) (HB0 x hx 0 _ rfl) rfl,Aa (j:=3) (HB0 x hx 0 _ rfl) rfl,Aa (j:=4) (HB0 x hx 0 _ rfl) rfl,Aa (j:=5) (HB0 x hx 0 _ rfl) rfl,Aa (j:=6) (HB0 x hx 0 _ rfl) rfl⟩
 have HA:=zh (fun x (hx:In Q x)=>Iz r.store _ _ x (H.out.store.below (hQb _ hx)));have HU:=zh (fun x (hx:In Q x)=>Gl r.refs _ _ x (H.out.refs.below (hQb _ hx)));have HP:=zh (fun x (hx:In Q x)=>My r.pend _ _ _ _ x (H.out.objs.below (hQb _ hx)) (H.out.upds.below (hQb _ hx)));simp only[Dn] at HP;clear HB0
 go_enter Tryz.func65, Tryz.ntmps65
 go_wp2_with fail;refine rh (fun x:World=>x.cell? ⟨w.heap.size,0,none⟩=some (.slice sa r.store.length sc)∧x.cell? ⟨w.heap.size,1,none⟩=some (.slice ra r.refs.length rc)∧x.cell? ⟨w.heap.size,2,none⟩=some (.int .i64 r.gen)∧x.cell? ⟨w.heap.size,3,none⟩=some (.int .i64 r.phase)∧x.cell? ⟨w.heap.size,4,none⟩=some (.slice oa r.pend.objects.length oc)∧x.cell? ⟨w.heap.size,5,none⟩=some (.slice ua r.pend.updates.length uc)∧x.cell? ⟨w.heap.size,6,none⟩=some (.bool r.pend.force)) ?_;have hC0:=hQ.drew _ hQ1;generalize ((w.alloc _).alloc _).drew=x0 at hC0⊢;clear hQ1;have hS0:=HS _ hC0;refine tk 0 (.pointer (some ⟨w.heap.size,0,none⟩)) (fun w hSw=>?_) hS0 ?_
 ·go_simp
 simp only[tkS];refine tk 1 (.slice sa r.store.length sc) (fun w hSw=>?_) hS0 ?_
 ·have yy:=hSw.1;go_simp
 simp only[tkS];refine tk 3 (.pointer (some ⟨w.heap.size,1,none⟩)) (fun w hSw=>?_) hS0 ?_
 ·go_simp
 simp only[tkS];refine tk 4 (.slice ra r.refs.length rc) (fun w hSw=>?_) hS0 ?_
 ·have yy:=hSw.2.1;go_simp
 simp only[tkS];refine tk 6 (.pointer (some ⟨w.heap.size,2,none⟩)) (fun w hSw=>?_) hS0 ?_
 ·go_simp
 simp only[tkS];refine tk 7 (.int .i64 r.gen) (fun w hSw=>?_) hS0 ?_
 ·have yy:=hSw.2.2.1;go_simp
 simp only[tkS];refine tk 8 (.pointer (some ⟨w.heap.size,3,none⟩)) (fun w hSw=>?_) hS0 ?_
 ·go_simp
 simp only[tkS];refine tk 9 (.int .i64 r.phase) (fun w hSw=>?_) hS0 ?_
 ·have yy:=hSw.2.2.2.1;go_simp
 simp only[tkS];refine tk 10 (.pointer (some ⟨w.heap.size,4,none⟩)) (fun w hSw=>?_) hS0 ?_
 ·go_simp
 simp only[tkS];refine tk 11 (.agg #[.slice oa r.pend.objects.length oc,.slice ua r.pend.updates.length uc,.bool r.pend.force]) (fun w hSw=>?_) hS0 ?_
 ·obtain⟨_,_,_,_,y4,y5,y6⟩:=hSw;go_simp
 simp only[tkS];refine al1 2 ?_;refine Or.inl ?_;go_wp2_with fail;refine(HA.out _ hC0).mono ?_;rintro e x1 ⟨vA,rfl,hvA,hb2⟩;have hC1:=hQn _ _ hC0 hb2;have hs0:=HN.out _ hC0;obtain⟨a1,c1,rfl⟩:=hvA.gath.shape;have HvA:=zh ((hvA.store h56).weaken (S':=fun b=>w.heap.size+2≤b) (fun b hb=>by omega));clear hvA;clear hb2;have hS1:=HS _ hC1;go_simp;refine al1 5 ?_;refine Or.inl ?_;go_wp2_with fail;refine(HU.out _ hC1).mono ?_;rintro e x2 ⟨vU,rfl,hvU,hb5⟩;have hC2:=hQn _ _ hC1 hb5;have hs1:=HN.out _ hC1;obtain⟨a2,c2,rfl⟩:=hvU.shape;have HvU:=zh ((hvU.refs h24).weaken (S':=fun b=>w.heap.size+2≤b) (fun b hb=>by omega));clear hvU;replace HvA:=zh (HvA.out.below hb5);clear hb5;have hS2:=HS _ hC2;go_simp;refine al1 12 ?_;refine Or.inl ?_;go_wp2_with fail;refine(HP.out _ hC2).mono ?_;rintro e x3 ⟨vO,vM,rfl,hvO,hvM,hb12⟩;have hC3:=hQn _ _ hC2 hb12;have hs2:=HN.out _ hC2;obtain⟨a3,c3,rfl⟩:=hvO.vshape;obtain⟨⟨a4,c4⟩,rfl⟩:=hvM.shape;have HvO:=zh (hvO.weaken (S':=fun b=>w.heap.size+2≤b) (fun b hb=>by omega));have HvM:=zh (hvM.weaken (S':=fun b=>w.heap.size+2≤b) (fun b hb=>by omega));have HvP:=zh (show Ul (fun b=>w.heap.size+2≤b) _ r.pend _ _ from⟨HvO.out,HvM.out⟩);clear hvO hvM HvO HvM;simp only[Dn];replace HvA:=zh (HvA.out.below hb12);replace HvU:=zh (HvU.out.below hb12);clear hb12;have hS3:=HS _ hC3;go_simp;refine al1 13 ?_;refine Or.inl ?_;go_simp;refine al1 14 ?_;refine Or.inl ?_;have hblk:=HZ.out _ hC3;obtain⟨g0,g1,g2,g3,g4,g5,g6⟩:=bc7 hblk;obtain⟨f0,f1,f2,f3,f4,f5,f6⟩:=bf7 hblk;have hb7:=AZ (v0:=.slice a1 r.store.length c1) (v1:=.slice a2 r.refs.length c2) (v2:=.int .i64 r.gen) (v3:=.int .i64 r.phase) (v4:=.slice a3 r.pend.objects.length c3) (v5:=.slice a4 r.pend.updates.length c4) (v6:=.bool r.pend.force) hblk
 have hu7:=AM (w.heap.size+1) (.slice a1 r.store.length c1) (.slice a2 r.refs.length c2) (.int .i64 r.gen) (.int .i64 r.phase) (.slice a3 r.pend.objects.length c3) (.slice a4 r.pend.updates.length c4) (.bool r.pend.force) x3;have Hb7:=zh hb7;have Hu7:=zh hu7;clear hb7 hu7;go_wp2_with fail;refine⟨by kernel_rfl,?_⟩;change Exit.then _ _ _ _ (Bg (w.heap.size+1) (.slice a1 r.store.length c1) (.slice a2 r.refs.length c2) (.int .i64 r.gen) (.int .i64 r.phase) (.slice a3 r.pend.objects.length c3) (.slice a4 r.pend.updates.length c4) (.bool r.pend.force) x3)
 have hb7:=Hb7.out;have hu7:=Hu7.out;clear Hb7 Hu7;generalize Bg (w.heap.size+1) (.slice a1 r.store.length c1) (.slice a2 r.refs.length c2) (.int .i64 r.gen) (.int .i64 r.phase) (.slice a3 r.pend.objects.length c3) (.slice a4 r.pend.updates.length c4) (.bool r.pend.force) x3=w7 at*;obtain⟨k0,k1,k2,k3,k4,k5,k6⟩:=bc7 hb7;clear g0 g1 g2 g3 g4 g5 g6 f0 f1 f2 f3 f4 f5 f6 hblk hb7;have hsz:=(hQb _ hC3).size;have hB7:Below w.heap.size w w7:=(hQb _ hC3).trans (hu7.below (B:=w.heap.size) hsz (fun b hb=>by omega));go_wp2_with fail;refine bodyPost_ret (v:=.agg (c7 r a1 c1 a2 c2 a3 c3 a4 c4)) (by simp[results,Tryz.results65,go_sem];simp[k0,k1,k2,k3,k4,k5,k6]<;>rfl) rfl ?_;exact⟨_,_,_,_,rfl,⟨(HvA.out.upd' hu7 (fun b hb e=>by omega)).weaken fun b hb=>by omega,(HvU.out.upd hu7 (fun b hb e=>by omega)).weaken fun b hb=>by omega,(HvP.out.1.upd' hu7 (fun b hb e=>by omega)).weaken fun b hb=>by omega,(HvP.out.2.upd hu7 (fun b hb e=>by omega)).weaken fun b hb=>by omega,H.out.gen,H.out.phase⟩,hB7⟩
variable [Ghost]
def Ag (l:List Am) (i:Nat):Am:=at_ BE l i
theorem EA {l:List Am} {i:Nat} (h:i<l.length):Ag l i=l[i]:=Ni h
structure RV where
 s:Value
 r:Value
 o:Value
 u:Value
def Ba (r:Am) (x:RV):List Value:=[x.s,x.r,.int .i64 r.gen,.int .i64 r.phase,x.o,x.u,.bool r.pend.force]
def ID (S:Nat→Prop) (w:World) (r:Am) (x:RV):Prop:=Ax S w r x.s x.r x.o x.u
def Az (S:Nat→Prop) (w:World) (v:Value) (l:List Am):Prop:=
 ∃vs:Nat→RV,Sl S w v 7 120 l.length (fun i=>Ba (Ag l i) (vs i))∧∀i,i<l.length→ID S w (Ag l i) (vs i)
theorem Az.below {S:Nat→Prop} {w w':World} {v:Value} {l:List Am} (h:Az S w v l) (hb:Below w.heap.size w w'):Az S w' v l:=
 let⟨vs,h1,h2⟩:=h;⟨vs,h1.below hb,fun i hi=>(h2 i hi).below hb⟩
theorem Az.weaken {S S':Nat→Prop} {w:World} {v:Value} {l:List Am} (h:Az S w v l) (hs:∀b,S b→S' b):Az S' w v l:=
 let⟨vs,h1,h2⟩:=h;⟨vs,h1.weaken hs,fun i hi=>(h2 i hi).weaken hs⟩
theorem Az.nil (S:Nat→Prop) (w:World) (cap:Nat) (a:Option Addr) (h:cap≤9223372036854775807):Az S w (.slice a 0 cap) []:=
 ⟨fun _=>⟨.nilFunc,.nilFunc,.nilFunc,.nilFunc⟩,⟨a,cap,rfl,Nat.zero_le _,h,by simp,fun h=>absurd h (by simp)⟩,fun i hi=>by simp at hi⟩
theorem Az.vshape {S:Nat→Prop} {w:World} {v:Value} {l:List Am} (h:Az S w v l):∃a c,v=.slice a l.length c:=
 let⟨_,⟨a,cap,hv,_⟩,_⟩:=h;⟨a,cap,hv⟩
theorem Az.take {S:Nat→Prop} {w:World} {a:Option Addr} {n cap:Nat} {l:List Am} (h:Az S w (.slice a n cap) l) {i:Nat} (hi:i≤l.length):Az S w (.slice a i cap) (l.take i):=by
 obtain⟨vs,⟨a',cap',hv,h1,h2,h3,h4⟩,h5⟩:=h;cases hv;have hl:(l.take i).length=i:=by rw[List.length_take];omega
 have he:∀j,j<i→Ag (l.take i) j=Ag l j:=fun j hj=>by unfold Ag at_;simp only[List.getD_eq_getElem?_getD,List.getElem?_take,if_pos hj]
 refine⟨vs,⟨a,cap,by rw[hl],by omega,h2,by omega,fun hn=>?_⟩,fun j hj=>?_⟩
 ·obtain⟨b,off,ha,hS,hc⟩:=h4 (by omega)
  exact⟨b,off,ha,⟨hS.1,hS.2.sub (Nat.le_refl _) (by rw[hl];omega)⟩,fun j hj k u hu=>hc j (by omega) k u (by show(Ba (Ag l j) (vs j))[k]?=some u;rw[←he j (by omega)];exact hu)⟩
 ·rw[he j (by omega)];exact h5 j (by omega)
structure RA where
 sa:Option Addr
 sc:Nat
 ra:Option Addr
 rc:Nat
 oa:Option Addr
 oc:Nat
 ua:Option Addr
 uc:Nat
def RA.rv (x:RA) (r:Am):RV:=⟨.slice x.sa r.store.length x.sc,.slice x.ra r.refs.length x.rc,.slice x.oa r.pend.objects.length x.oc,.slice x.ua r.pend.updates.length x.uc⟩
theorem ID.ra {S:Nat→Prop} {w:World} {r:Am} {x:RV} (h:ID S w r x):∃y:RA,x=y.rv r:=by
 obtain⟨sa,sc,e1⟩:=Ai.vshape h.store;obtain⟨⟨ra,rc⟩,e2⟩:=AB.shape h.refs;obtain⟨oa,oc,e3⟩:=Ai.vshape h.objs;obtain⟨⟨ua,uc⟩,e4⟩:=AJ.shape h.upds;exact⟨⟨sa,sc,ra,rc,oa,oc,ua,uc⟩,by cases x;simp_all [RA.rv]⟩
theorem Az.open {S:Nat→Prop} {w:World} {v:Value} {l:List Am} (h:Az S w v l):
  ∃a n cap,∃f:Nat→RA,Hid (n=l.length)∧v=.slice a n cap∧n≤cap∧cap≤9223372036854775807∧n*120≤140737488351232∧
   (0<n→∃b off,a=some ⟨b,off,none⟩∧S b∧
    (∀i x,i<n→Below w.heap.size w x→x.cell? ⟨b,off+i*7,none⟩=some (.slice (f i).sa (Ag l i).store.length (f i).sc))∧
    (∀i x,i<n→Below w.heap.size w x→x.cell? ⟨b,off+i*7+1,none⟩=some (.slice (f i).ra (Ag l i).refs.length (f i).rc))∧
    (∀i x,i<n→Below w.heap.size w x→x.cell? ⟨b,off+i*7+2,none⟩=some (.int .i64 (Ag l i).gen))∧
    (∀i x,i<n→Below w.heap.size w x→x.cell? ⟨b,off+i*7+3,none⟩=some (.int .i64 (Ag l i).phase))∧
    (∀i x,i<n→Below w.heap.size w x→x.cell? ⟨b,off+i*7+4,none⟩=some (.slice (f i).oa (Ag l i).pend.objects.length (f i).oc))∧
    (∀i x,i<n→Below w.heap.size w x→x.cell? ⟨b,off+i*7+5,none⟩=some (.slice (f i).ua (Ag l i).pend.updates.length (f i).uc))∧
    (∀i x,i<n→Below w.heap.size w x→x.cell? ⟨b,off+i*7+6,none⟩=some (.bool (Ag l i).pend.force)))∧
   (∀i,i<n→Ax S w (Ag l i) (.slice (f i).sa (Ag l i).store.length (f i).sc) (.slice (f i).ra (Ag l i).refs.length (f i).rc) (.slice (f i).oa (Ag l i).pend.objects.length (f i).oc) (.slice (f i).ua (Ag l i).pend.updates.length (f i).uc)):=by
 obtain⟨vs,h1,h2⟩:=h;have hp:∃f:Nat→RA,∀i,i<l.length→vs i=(f i).rv (Ag l i):=by
  refine⟨fun i=>if hi:i<l.length then Classical.choose (h2 i hi).ra else⟨none,0,none,0,none,0,none,0⟩,fun i hi=>?_⟩;simp only[hi,dif_pos];exact Classical.choose_spec (h2 i hi).ra
 obtain⟨f,hf⟩:=hp;obtain⟨a,cap,hv,h3,h4,h5,h6⟩:=h1;refine⟨a,l.length,cap,f,rfl,hv,h3,h4,h5,fun hn=>?_,fun i hi=>?_⟩
 ·obtain⟨b,off,ha,hS,hc⟩:=h6 hn
  have hc':∀i x,i<l.length→Below w.heap.size w x→∀j u,(Ba (Ag l i) ((f i).rv (Ag l i)))[j]?=some u→x.cell? ⟨b,off+i*7+j,none⟩=some u:=
   fun i x hi hb j u hu=>Ae hb (hc i hi j u (by show(Ba (Ag l i) (vs i))[j]?=some u;rw[hf i hi];exact hu))
  exact⟨b,off,ha,hS.1,fun i x hi hb=>hc' i x hi hb 0 _ rfl,fun i x hi hb=>hc' i x hi hb 1 _ rfl,fun i x hi hb=>hc' i x hi hb 2 _ rfl,fun i x hi hb=>hc' i x hi hb 3 _ rfl,fun i x hi hb=>hc' i x hi hb 4 _ rfl,fun i x hi hb=>hc' i x hi hb 5 _ rfl,fun i x hi hb=>hc' i x hi hb 6 _ rfl⟩
 ·have:=h2 i hi
  rw[hf i hi] at this;exact this
def AQ (l:List Am):Nat→Nat×Nat
 |0=>(0,0)
 |k+1=>if k=0∨(Ag l (AQ l k).1).gen<(Ag l k).gen then(k,1) else if(Ag l k).gen=(Ag l (AQ l k).1).gen then((AQ l k).1,(AQ l k).2+1) else AQ l k
theorem LL (l:List Am):∀k,(AQ l k).1<k∨(AQ l k).1=0
 |0=>.inr rfl
 |k+1=>by
  have:=LL l k;unfold AQ;split
  ·exact .inl (by simp)
  ·split<;>(left;try dsimp only)<;>omega
theorem IV (l:List Am):∀k,(AQ l k).2≤k
 |0=>Nat.le_refl _
 |k+1=>by
  have:=IV l k;unfold AQ;split
  ·simp
  ·split<;>(try dsimp only)<;>omega
def BS (l:List Am):Nat:=(AQ l l.length).1
def many (l:List Am):Nat:=(AQ l l.length).2
theorem Nm (l:List Am) (v:Value) (S:Nat→Prop) (w:World) (h:Az S w v l):
  Calls Tryz.prog 45 #[.agg #[v]] w fun e w'=>e=.returned (.tuple #[.int .i64 (BS l),.int .i64 (many l)])∧Below w.heap.size w w':=by
 obtain⟨a,n,cap,fr,HN,rfl,h1,h2,h3,h4,h5⟩:=h.open;have HF:=zh (show BS l=(AQ l n).1∧many l=(AQ l n).2 by rw[HN.out];exact⟨rfl,rfl⟩);clear h h5;obtain⟨R,hR,hR1,HB0⟩:=AF w [.cells #[.slice a n cap] 24];simp only[List.foldl] at hR1;have hRb:=hR.below;have hRn:=hR.next
 have c0:=fun x (hx:In R x)=>Aa (j:=0) (HB0 x hx 0 _ rfl) rfl
 simp only[Nat.add_zero] at c0;clear HB0;have cc:=c0 _ hR1
 go_enter Tryz.func45, Tryz.ntmps45
 go_wp2_with fail;clear cc;go_loopw [4,5,12] (fun s4 s5 i wr=>∃k:Nat,k≤n∧i=.int .i64 k∧s4=.int .i64 ((AQ l k).1:Nat)∧s5=.int .i64 ((AQ l k).2:Nat)∧In R wr) (fun _ _ i _=>n-(intOf i).toNat)
 case atStart=>exact⟨0,by omega,rfl,rfl,rfl,hR1⟩
 obtain⟨k,hk,rfl,rfl,rfl,hRw⟩:=hrel;clear hR1;by_cases hlt:k<n
 ·obtain⟨b,off,rfl,hb,k0,k1,k2,k3,k4,k5,k6⟩:=h4 (by omega)
  have x0:=k0 k wr hlt (hRb _ hRw);have x1:=k1 k wr hlt (hRb _ hRw);have x2:=k2 k wr hlt (hRb _ hRw);have x3:=k3 k wr hlt (hRb _ hRw);have x4:=k4 k wr hlt (hRb _ hRw);have x5:=k5 k wr hlt (hRb _ hRw);have x6:=k6 k wr hlt (hRb _ hRw);obtain⟨Q,hQ,hQ1,hy⟩:=BO wr #[.slice (fr k).sa (Ag l k).store.length (fr k).sc,.slice (fr k).ra (Ag l k).refs.length (fr k).rc,.int .i64 (Ag l k).gen,.int .i64 (Ag l k).phase,.slice (fr k).oa (Ag l k).pend.objects.length (fr k).oc,.slice (fr k).ua (Ag l k).pend.updates.length (fr k).uc,.bool (Ag l k).pend.force] 34;have y2:=hy 2 _ rfl _ hQ1;have hR2:=hRn _ _ hRw (hQ.below _ hQ1);have hi1:=zk k;have hi2:(k:Int)<(n:Int):=by omega
  have Hnx:=zh (show AQ l (k+1)=if k=0∨(Ag l (AQ l k).1).gen<(Ag l k).gen then(k,1) else if(Ag l k).gen=(Ag l (AQ l k).1).gen then((AQ l k).1,(AQ l k).2+1) else AQ l k from rfl);have hml:=LL l k;have hmm:=IV l k;generalize hat:(AQ l k).1=at0 at*;generalize hma:(AQ l k).2=ma at*;rw[show AQ l k=(at0,ma) from Prod.ext hat hma] at Hnx;have hat1:at0<n:=by omega
  have xa:=k2 at0 _ hat1 (hRb _ hR2);have c1:=c0 _ hR2;have ci:=c0 _ hRw;clear hat hma k0 k1 k2 k3 k4 k5 k6 h4 hy hQ1 hml;have ha1:(0:Int)≤(at0:Int):=by omega
  have ha2:(at0:Int)<(n:Int):=by omega
  have hw1:=Be (n:=(ma:Int)+1) (by omega);by_cases hz:k=0
  ·have Hn2:=zh (show AQ l (k+1)=(k,1) by rw[Hnx.out,if_pos (.inl hz)])
   have q0:((k:Int)==0)=true:=by simp[hz]
   clear hz;go_wp2_with fail;go_roundw
   case rel=>exact⟨k+1,by omega,by go_num,by rw[Hn2.out];try rfl,by rw[Hn2.out];try rfl,hR2⟩
   case measure=>simp[intOf];omega
  ·have q0:((k:Int)==0)=false:=by simpa using hz
   by_cases hg:(Ag l at0).gen<(Ag l k).gen
   ·have Hn2:=zh (show AQ l (k+1)=(k,1) by rw[Hnx.out,if_pos (.inr hg)])
    have q1:decide ((Ag l at0).gen<(Ag l k).gen)=true:=decide_eq_true hg;clear hz hg;go_wp2_with fail;go_roundw
    case rel=>exact⟨k+1,by omega,by go_num,by rw[Hn2.out];try rfl,by rw[Hn2.out];try rfl,hR2⟩
    case measure=>simp[intOf];omega
   ·have q1:decide ((Ag l at0).gen<(Ag l k).gen)=false:=decide_eq_false hg
    by_cases he:(Ag l k).gen=(Ag l at0).gen
    ·have Hn2:=zh (show AQ l (k+1)=(at0,ma+1) by rw[Hnx.out,if_neg (by simp[hz,hg]),if_pos he])
     have q2:((Ag l k).gen==(Ag l at0).gen)=true:=by simpa using he
     clear hz hg he;go_wp2_with fail;go_roundw
     case rel=>exact⟨k+1,by omega,by go_num,by rw[Hn2.out];try first|rfl|simp,by rw[Hn2.out];try first|rfl|simp,hR2⟩
     case measure=>simp[intOf];omega
    ·have Hn2:=zh (show AQ l (k+1)=(at0,ma) by rw[Hnx.out,if_neg (by simp[hz,hg]),if_neg he])
     have q2:((Ag l k).gen==(Ag l at0).gen)=false:=by simpa using he
     clear hz hg he;go_wp2_with fail;go_roundw
     case rel=>exact⟨k+1,by omega,by go_num,by rw[Hn2.out];try rfl,by rw[Hn2.out];try rfl,hR2⟩
     case measure=>simp[intOf];omega
 ·obtain rfl:k=n:=by omega
  go_wp2_with fail;refine bodyPost_ret (v:=.tuple #[.int .i64 ((AQ l k).1:Nat),.int .i64 ((AQ l k).2:Nat)]) (by simp[results,Tryz.results45,go_sem]<;>rfl) rfl ?_;exact⟨by rw[HF.out.1,HF.out.2],hRb _ hRw⟩
def Er (l:List Am):Nat→Nat
 |0=>0
 |k+1=>if(Ag l (Er l k)).gen<(Ag l k).gen then k else Er l k
theorem Wb (l:List Am):Er l 1=0:=by simp[Er]
theorem SG (l:List Am):∀k,Er l k<k∨Er l k=0
 |0=>.inr rfl
 |k+1=>by
  have:=SG l k;unfold Er;split<;>omega
theorem OM (l:List Am):∀k,Er l k=(AQ l k).1
 |0=>rfl
 | k+1=>by
  have ih:=OM l k;unfold Er AQ;rw[ih];by_cases h0:k=0
  ·subst h0;simp[AQ]
  ·by_cases hg:(Ag l (AQ l k).1).gen<(Ag l k).gen
   ·rw[if_pos hg,if_pos (.inr hg)]
   ·rw[if_neg hg,if_neg (by simp[h0,hg])]
    split<;>rfl
theorem Nl (l:List Am) (v:Value) (S:Nat→Prop) (w:World) (h:Az S w v l):
  Calls Tryz.prog 33 #[.agg #[v]] w fun e w'=>e=.returned (.int .i64 (BS l))∧Below w.heap.size w w':=by
 obtain⟨a,n,cap,fr,HN,rfl,h1,h2,h3,h4,h5⟩:=h.open;have HF:=zh (show BS l=Er l n by rw[HN.out];exact(OM l _).symm);clear h h5;obtain⟨R,hR,hR1,HB0⟩:=AF w [.cells #[.slice a n cap] 24];simp only[List.foldl] at hR1;have hRb:=hR.below;have hRn:=hR.drewN;have c0:=fun x (hx:In R x)=>Aa (j:=0) (HB0 x hx 0 _ rfl) rfl
 simp only[Nat.add_zero] at c0;clear HB0;have HT1:=zh (show Er l 1=0 from Wb l);have HT0:=zh (show Er l 0=0 from rfl)
 go_enter Tryz.func33, Tryz.ntmps33
 go_wp2_with fail;go_loopw [3,4] (fun s3 i wr=>∃k:Nat,1≤k∧(k≤n∨k=1)∧i=.int .i64 k∧s3=.int .i64 (Er l k:Nat)∧In R wr) (fun _ i _=>n-(intOf i).toNat)
 case atStart=>exact⟨1,by omega,.inr rfl,rfl,by rw[HT1.out];rfl,hR1⟩
 obtain⟨k,hk1,hk,rfl,rfl,hRw⟩:=hrel;clear hR1;by_cases hlt:k<n
 ·obtain⟨b,off,rfl,hb,k0,k1,k2,k3,k4,k5,k6⟩:=h4 (by omega)
  have Hnx:=zh (show Er l (k+1)=if(Ag l (Er l k)).gen<(Ag l k).gen then k else Er l k from rfl);have hml:=SG l k;generalize Er l k=at0 at*;have hat1:at0<n:=by omega
  have x2:∀x,In R x→x.cell? ⟨b,off+k*7+2,none⟩=some (.int .i64 (Ag l k).gen):=fun x hx=>k2 k x hlt (hRb x hx)
  have xa:∀x,In R x→x.cell? ⟨b,off+at0*7+2,none⟩=some (.int .i64 (Ag l at0).gen):=fun x hx=>k2 at0 x hat1 (hRb x hx)
  clear k0 k1 k2 k3 k4 k5 k6 h4 hml;have hi1:=zk k;have hi2:(k:Int)<(n:Int):=by omega
  have ha1:(0:Int)≤(at0:Int):=by omega
  have ha2:(at0:Int)<(n:Int):=by omega
  by_cases hg:(Ag l at0).gen<(Ag l k).gen
  ·have Hn2:=zh (show Er l (k+1)=k by rw[Hnx.out,if_pos hg])
   have q1:decide ((Ag l at0).gen<(Ag l k).gen)=true:=decide_eq_true hg;clear hg;go_wp2_with fail;go_quiet (fail);go_wp2_with fail;go_roundw
   case rel=>exact⟨k+1,by omega,.inl (by omega),by go_num,by rw[Hn2.out],hRn _ _ hRw⟩
   case measure=>simp[intOf];omega
  ·have Hn2:=zh (show Er l (k+1)=at0 by rw[Hnx.out,if_neg hg])
   have q1:decide ((Ag l at0).gen<(Ag l k).gen)=false:=decide_eq_false hg;clear hg;go_wp2_with fail;go_quiet (fail);go_wp2_with fail;go_roundw
   case rel=>exact⟨k+1,by omega,.inl (by omega),by go_num,by rw[Hn2.out],hRn _ _ hRw⟩
   case measure=>simp[intOf];omega
 ·have HF2:=zh (show BS l=Er l k by rw[HF.out];rcases hk with h|h;rw[show k=n by omega];rw[h];by_cases e:n=0;rw[e,HT0.out,HT1.out];rw[show n=1 by omega])
  go_wp2_with fail;go_ret;exact⟨Af (by rw[HF2.out]),hRb _ hRw⟩
theorem OZ (xs ys:List Rf) (v v':Value) (S S':Nat→Prop) (w:World) (h1:AB S w v xs) (h2:AB S' w v' ys):
  Calls Tryz.prog 49 #[v,v'] w fun e w'=>e=.returned (.bool (BF xs ys))∧Below w.heap.size w w':=by
 obtain⟨a,n,cap,HN,rfl,hc1,hc2,hc8,hc,_⟩:=h1.open;obtain⟨a',n',cap',HN',rfl,hc1',hc2',hc8',hc',_⟩:=h2.open;obtain⟨R,hR,hR1,_⟩:=Av w;have hRb:=hR.below;have hRn:=hR.drewN;by_cases hl:n=n'
 ·subst hl
  have Hall:=zh (Lq (xs:=xs) (ys:=ys) (by rw[←HN.out,←HN'.out]))
  go_enter Tryz.func49, Tryz.ntmps49
  go_wp2;go_loopw [13] (fun i wr=>∃k:Nat,k≤n∧i=.int .i64 k∧Hid (∀j,j<k→FT (rf xs j) (rf ys j)=true)∧In R wr) (fun i _=>n-(intOf i).toNat)
  case atStart=>exact⟨0,by omega,rfl,fun j hj=>absurd hj (by omega),hR1⟩
  obtain⟨k,hk,rfl,Hs,hRw⟩:=hrel;clear hR1;by_cases hlt:k<n
  ·obtain⟨b,off,rfl,hb,k0,k1⟩:=hc (by omega)
   obtain⟨b',off',rfl,hb',k0',k1'⟩:=hc' (by omega);have x0:∀x,In R x→x.cell? ⟨b,off+k*2,none⟩=some (.string (rf xs k).name):=fun x hx=>k0 k x hlt (hRb x hx)
   have x1:∀x,In R x→x.cell? ⟨b,off+k*2+1,none⟩=some (.int .i64 (rf xs k).id):=fun x hx=>k1 k x hlt (hRb x hx)
   have x0':∀x,In R x→x.cell? ⟨b',off'+k*2,none⟩=some (.string (rf ys k).name):=fun x hx=>k0' k x hlt (hRb x hx)
   have x1':∀x,In R x→x.cell? ⟨b',off'+k*2+1,none⟩=some (.int .i64 (rf ys k).id):=fun x hx=>k1' k x hlt (hRb x hx)
   clear hc hc' k0 k1 k0' k1';have hi1:=zk k;have hi2:(k:Int)<(n:Int):=by omega
   have hneq:=Oy (rf xs k) (rf ys k);cases he:FT (rf xs k) (rf ys k)
   ·rw[he] at hneq
    have Hq:=zh (MF (xs:=xs) (ys:=ys) (k:=k) (by rw[←HN.out];exact hlt) he);clear he;go_wp2_with fail;go_quiet (fail);go_wp2;go_ret;exact⟨by rw[Hq.out];rfl,hRb _ (hRn _ _ hRw)⟩
   ·rw[he] at hneq
    have He:=zh he;clear he;go_wp2_with fail;go_quiet (fail);go_wp2;go_roundw
    case rel=>exact⟨k+1,by omega,by go_num,By Hs.out He.out,hRn _ _ hRw⟩
    case measure=>simp[intOf];omega
  ·have Hk:=zh (show BF xs ys=true from Hall.out (fun j hj=>Hs.out j (by have:=HN.out;omega)))
   go_wp2;go_ret;exact⟨by rw[Hk.out];rfl,hRb _ hRw⟩
 ·have Hl:=zh (Ls (xs:=xs) (ys:=ys) (by rw[←HN.out,←HN'.out];exact hl))
  go_enter Tryz.func49, Tryz.ntmps49
  go_wp2;go_ret;exact⟨by rw[Hl.out];rfl,hRb _ hR1⟩
def IL (x r:Am):Bool:=(x.gen==r.gen) && !BF x.refs r.refs
theorem OW (x r:Am) (sv rv ov uv:Value) (S S1:Nat→Prop) (w:World) (h:Ax S w x sv rv ov uv) (b:Nat) (rv2:Value) (hr:AB S1 w rv2 r.refs) (hg:w.cell? ⟨b,2,none⟩=some (.int .i64 r.gen)) (hc:w.cell? ⟨b,1,none⟩=some rv2):
  Calls Tryz.prog 48 #[AO x sv rv ov uv,.pointer (some ⟨b,0,none⟩)] w fun e w'=>e=.returned (.bool (IL x r))∧Below w.heap.size w w':=by
 have HD:=zh (show IL x r=((x.gen==r.gen) && !BF x.refs r.refs) from rfl);have H:=zh h;obtain⟨sa,sc,rfl⟩:=h.store.vshape;obtain⟨⟨ra,rc⟩,rfl⟩:=h.refs.shape;obtain⟨oa,oc,rfl⟩:=h.objs.vshape;obtain⟨⟨ua,uc⟩,rfl⟩:=h.upds.shape;obtain⟨⟨ra2,rc2⟩,rfl⟩:=hr.shape;clear h;simp only[AO];obtain⟨Q,hQ,hQ1,hy⟩:=BO w #[.slice sa x.store.length sc,.slice ra x.refs.length rc,.int .i64 x.gen,.int .i64 x.phase,.slice oa x.pend.objects.length oc,.slice ua x.pend.updates.length uc,.bool x.pend.force] 34;have hQb:=hQ.below;have hQn:=hQ.next
 have HE:=zh (OZ x.refs r.refs _ _ _ _ _ (H.out.refs.below (hQb _ hQ1)) (hr.below (hQb _ hQ1)));have y1:=hy 1 _ rfl _ hQ1;have y2:=hy 2 _ rfl _ hQ1;have z1:=Ae (hQb _ hQ1) hc;have z2:=Ae (hQb _ hQ1) hg;clear hy hc hg hr;generalize BF x.refs r.refs=q at*;cases q2:(x.gen==r.gen)
 ·rw[q2,Bool.false_and] at HD
  go_enter Tryz.func48, Tryz.ntmps48
  go_wp2_with fail;go_ret;exact⟨by rw[HD.out];rfl,hQb _ hQ1⟩
 ·rw[q2,Bool.true_and] at HD
  go_enter Tryz.func48, Tryz.ntmps48
  go_wp2_with fail;refine HE.out.mono ?_;rintro e w1 ⟨rfl,hb1⟩;have hQ2:=hQn _ _ hQ1 hb1;go_wp2_with fail;go_ret;exact⟨by rw[HD.out];rfl,hQb _ hQ2⟩
def Ms (p:Am→Bool) (l:List Am):Int:=match l.findIdx? p with|some i=>(i:Int)|none=>-1
theorem Vk {l:List Am} {p:Am→Bool} {k:Nat} (h:∀j,j<k→p (Ag l j)=false) (hk:k<l.length) (he:p (Ag l k)=true):Ms p l=k:=by
 unfold Ms;have:l.findIdx? p=some k:=by
  rw[List.findIdx?_eq_some_iff_getElem];refine⟨hk,by rw[←EA hk];exact he,fun j hj=>?_⟩;have:=h j hj;rw[EA (by omega)] at this;simp[this]
 rw[this]
theorem Tm {l:List Am} {p:Am→Bool} (h:∀j,j<l.length→p (Ag l j)=false):Ms p l=-1:=by
 unfold Ms;have:l.findIdx? p=none:=by
  rw[List.findIdx?_eq_none_iff];intro x hx;obtain⟨i,hi,rfl⟩:=List.getElem_of_mem hx;have:=h i hi
  rwa [EA hi] at this
 rw[this]
theorem RH (p:Am→Bool) (l:List Am):(Ms p l=-1∧∀j,j<l.length→p (Ag l j)=false)∨∃k,k<l.length∧Ms p l=(k:Int)∧p (Ag l k)=true:=by
 unfold Ms;cases h:l.findIdx? p with
 |none=>
  rw[List.findIdx?_eq_none_iff] at h;exact .inl ⟨rfl,fun j hj=>by rw[EA hj];exact h _ (List.getElem_mem hj)⟩
 |some k=>
  rw[List.findIdx?_eq_some_iff_getElem] at h;obtain⟨hk,he,_⟩:=h;exact .inr ⟨k,hk,rfl,by rw[EA hk];exact he⟩
def Wk (g:Nat) (c:Value) (p:Am→Bool) (w:World) (l:List Am):Prop:=
 ∀(x:World) (i:Nat) (S:Nat→Prop) (sv rv ov uv:Value),i<l.length→Below w.heap.size w x→Ax S x (Ag l i) sv rv ov uv→Calls Tryz.prog g #[AO (Ag l i) sv rv ov uv,c] x fun e w'=>e=.returned (.bool (p (Ag l i)))∧Below x.heap.size x w'
theorem NN (l:List Am) (v c:Value) (S:Nat→Prop) (g:Nat) (p:Am→Bool) (w:World) (h:Az S w v l) (eg:∀args w,(callFunc g args).run Tryz.prog w=.ok (.enter g args) w) (hp:Wk g c p w l):
  Calls Tryz.prog 73 #[v,.func (.func g) #[] #[c]] w fun e w'=>e=.returned (.int .i64 (Ms p l))∧Below w.heap.size w w':=by
 obtain⟨a,n,cap,fr,HN,rfl,h1,h2,h3,h4,h5⟩:=h.open;clear h;obtain⟨R,hR,hR1,_⟩:=Av w;have hRb:=hR.below;have hRn:=hR.next
 have Hp:=zh (fun x k (hk:k<n) (hx:Below w.heap.size w x)=>hp x k S _ _ _ _ (by rw[←HN.out];exact hk) hx ((h5 k hk).below hx));clear hp h5;simp only[AO] at Hp;have Hh:=zh (fun k h1 hk he=>Vk (l:=l) (p:=p) (k:=k) h1 (by rw[←HN.out];exact hk) he);have Hn:=zh (fun h1=>Tm (l:=l) (p:=p) (by rw[←HN.out];exact h1))
 go_enter Tryz.func73, Tryz.ntmps73
 go_wp2_with fail;go_loopw [8] (fun i wr=>∃k:Nat,k≤n∧i=.int .i64 k∧Hid (∀j,j<k→p (Ag l j)=false)∧In R wr) (fun i _=>n-(intOf i).toNat)
 case atStart=>exact⟨0,by omega,rfl,fun j hj=>absurd hj (by omega),hR1⟩
 obtain⟨k,hk,rfl,Hs,hRw⟩:=hrel;clear hR1;by_cases hlt:k<n
 ·obtain⟨b,off,rfl,hb,k0,k1,k2,k3,k4,k5,k6⟩:=h4 (by omega)
  have x0:=k0 k wr hlt (hRb _ hRw);have x1:=k1 k wr hlt (hRb _ hRw);have x2:=k2 k wr hlt (hRb _ hRw);have x3:=k3 k wr hlt (hRb _ hRw);have x4:=k4 k wr hlt (hRb _ hRw);have x5:=k5 k wr hlt (hRb _ hRw);have x6:=k6 k wr hlt (hRb _ hRw);clear h4 k0 k1 k2 k3 k4 k5 k6;cases hq:p (Ag l k)
  ·have He:=zh hq
   go_wp2_with fail;refine(Hp.out _ k hlt (hRb _ hRw)).mono ?_;rintro e w' ⟨rfl,hb2⟩;rw[hq];have hR2:=hRn _ _ hRw hb2;go_wp2_with fail;go_roundw
   case rel=>exact⟨k+1,by omega,by go_num,By Hs.out He.out,hR2⟩
   case measure=>simp[intOf];omega
  ·have HK:=zh (Hh.out k Hs.out hlt hq)
   go_wp2_with fail;refine(Hp.out _ k hlt (hRb _ hRw)).mono ?_;rintro e w' ⟨rfl,hb2⟩;rw[hq];have hR2:=hRn _ _ hRw hb2;go_wp2_with fail;go_ret;exact⟨Af HK.out.symm,hRb _ hR2⟩
 ·obtain rfl:k=n:=by omega
  have HK:=zh (Hn.out Hs.out);go_wp2_with fail;go_ret;exact⟨Af HK.out.symm,hRb _ hRw⟩
theorem KN (l:List Am) (v c:Value) (S:Nat→Prop) (g:Nat) (p:Am→Bool) (w:World) (h:Az S w v l) (eg:∀args w,(callFunc g args).run Tryz.prog w=.ok (.enter g args) w) (hp:Wk g c p w l):
  Calls Tryz.prog 47 #[v,.func (.func g) #[] #[c]] w fun e w'=>e=.returned (.bool (l.any p))∧Below w.heap.size w w':=by
 obtain⟨q,qc,rfl⟩:=h.vshape;have Hi:=zh (NN l _ c S g p w h eg hp);rcases RH p l with⟨h0,h1⟩|⟨k,hk,h0,h1⟩
 ·have Ha:=zh (show l.any p=false by
   rw[List.any_eq_false];intro x hx;obtain⟨i,hi,rfl⟩:=List.getElem_of_mem hx;have:=h1 i hi;rw[EA hi] at this;simp[this])
  clear h1 hp
  go_enter Tryz.func47, Tryz.ntmps47
  go_wp2_with fail;refine Hi.out.mono ?_;rintro e w' ⟨rfl,hb⟩;rw[h0];go_wp2_with fail;go_ret;exact⟨by rw[Ha.out];rfl,hb⟩
 ·have Ha:=zh (show l.any p=true by
   rw[List.any_eq_true];exact⟨Ag l k,by rw[EA hk];exact List.getElem_mem hk,h1⟩)
  have hd:decide ((0:Int)≤(k:Int))=true:=by simp
  clear h1 hp
  go_enter Tryz.func47, Tryz.ntmps47
  go_wp2_with fail;refine Hi.out.mono ?_;rintro e w' ⟨rfl,hb⟩;rw[h0];go_wp2_with fail;go_ret;exact⟨by rw[Ha.out];first|rfl|simp,hb⟩
variable [Ghost]
theorem Az.upd {S T:Nat→Prop} {w w':World} {v:Value} {l:List Am} (h:Az S w v l) (hu:AK T w w') (hT:∀b,S b→¬T b):Az S w' v l:=by
 obtain⟨vs,⟨a,cap,hv,h1,h2,h3,h4⟩,h5⟩:=h;refine⟨vs,⟨a,cap,hv,h1,h2,h3,fun hn=>?_⟩,fun i hi=>Ax.upd (h5 i hi) hu hT⟩;obtain⟨b,off,ha,hS,hc⟩:=h4 hn;exact⟨b,off,ha,⟨hS.1,hS.2.same fun hl=>hu.block b hl (hT b hS.1)⟩,fun i hi j u hu2=>hu.cell (hc i hi j u hu2) (hT b hS.1)⟩
theorem Ab {w w':World} {D:Nat} {o:Go.Obj} (h:w.heap[D]?=some o) (hb:Below w.heap.size w w'):w'.heap[D]?=some o:=(hb.block _ (lt_of_block h)).trans h
theorem VN {S:Nat→Prop} (w:World) (r0 r1 r2:Am) (x0 x1 x2:RV) (t:TypeId) (N:Nat) (hN:N=w.heap.size) (h0:ID S w r0 x0) (h1:ID S w r1 x1) (h2:ID S w r2 x2):
  Az (fun _=>True) (w.alloc (.cells (Ba r0 x0++Ba r1 x1++Ba r2 x2).toArray t)) (.slice (some ⟨N,0,none⟩) 3 3) [r0,r1,r2]:=by
 subst hN;have hb:=(Below.refl w.heap.size w).alloc (Nat.le_refl _) (.cells (Ba r0 x0++Ba r1 x1++Ba r2 x2).toArray t);refine⟨fun i=>match i with|0=>x0|1=>x1|_=>x2,⟨some ⟨w.heap.size,0,none⟩,3,rfl,Nat.le_refl _,by omega,by simp,fun _=>⟨w.heap.size,0,rfl,⟨trivial,MX.of_block (heap_alloc_new w _)⟩,fun i hi j u hu=>?_⟩⟩,fun i hi=>?_⟩
 ·refine Aa (heap_alloc_new w _) ?_
  simp only[List.length_cons,List.length_nil] at hi;have hj:j<7:=by
   rcases Nat.lt_or_ge j 7 with h|h
   ·exact h
   ·rw[List.getElem?_eq_none (by show 7≤j;exact h)] at hu;cases hu
  rw[List.getElem?_toArray]
  match i,hi,hu with
  |0,_,hu=>have hu':(Ba r0 x0)[j]?=some u:=hu;rw[Nat.zero_mul,Nat.add_zero,Nat.zero_add,List.append_assoc,List.getElem?_append_left (by exact hj)];exact hu'
  |1,_,hu=>have hu':(Ba r1 x1)[j]?=some u:=hu;rw[List.append_assoc,List.getElem?_append_right (by show 7≤0+1*7+j;omega),List.getElem?_append_left (by show 0+1*7+j-7<7;omega)];rw[show 0+1*7+j-(Ba r0 x0).length=j by show 0+1*7+j-7=j;omega];exact hu'
  |2,_,hu=>have hu':(Ba r2 x2)[j]?=some u:=hu;rw[List.getElem?_append_right (by show 14≤0+2*7+j;omega),show 0+2*7+j-(Ba r0 x0++Ba r1 x1).length=j by show 0+2*7+j-14=j;omega];exact hu'
 ·simp only[List.length_cons,List.length_nil] at hi
  match i,hi with
  |0,_=>exact(Ax.below h0 hb).weaken fun _ _=>trivial
  |1,_=>exact(Ax.below h1 hb).weaken fun _ _=>trivial
  |2,_=>exact(Ax.below h2 hb).weaken fun _ _=>trivial
def KH (D:Nat) (w:World) (r:Am):Prop:=
 ∃sa sc ra rc oa oc ua uc,w.heap[D]?=some (.cells #[.slice sa r.store.length sc,.slice ra r.refs.length rc,.int .i64 r.gen,.int .i64 r.phase,.slice oa r.pend.objects.length oc,.slice ua r.pend.updates.length uc,.bool r.pend.force] 34 (0,0))∧
  Ax (fun _=>True) w r (.slice sa r.store.length sc) (.slice ra r.refs.length rc) (.slice oa r.pend.objects.length oc) (.slice ua r.pend.updates.length uc)
theorem KH.below {D:Nat} {w w':World} {r:Am} (h:KH D w r) (hb:Below w.heap.size w w'):KH D w' r:=by
 obtain⟨sa,sc,ra,rc,oa,oc,ua,uc,h1,h2⟩:=h;exact⟨sa,sc,ra,rc,oa,oc,ua,uc,(hb.block _ (lt_of_block h1)).trans h1,h2.below hb⟩
def Wm (D:Nat) (w:World) (l:List Am):Prop:=∃a c,w.heap[D]?=some (.cells #[.slice a l.length c] 24 (0,0))∧Az (fun _=>True) w (.slice a l.length c) l
theorem Wm.below {D:Nat} {w w':World} {l:List Am} (h:Wm D w l) (hb:Below w.heap.size w w'):Wm D w' l:=by
 obtain⟨a,c,h1,h2⟩:=h;exact⟨a,c,(hb.block _ (lt_of_block h1)).trans h1,h2.below hb⟩
theorem EU (w0:World):∃Q:World→Prop,SL w0 Q∧In Q w0∧∀x y (T:Nat→Prop),In Q x→AK T x y→(∀b,T b→w0.heap.size≤b)→In Q y:=
 ⟨_,Ib w0 w0 w0.heap.size (Nat.le_refl _) (Nat.le_refl _) (Below.refl _ _),Below.refl _ _,fun x y T hx hu hT=>Below.trans (hx:Below _ _ _) (hu.below (Below.size (hx:Below _ _ _)) hT)⟩
def GU (P:Nat→Prop) (D:Nat) (w:World) (r:Am):Prop:=
 ∃sa sc ra rc oa oc ua uc,w.heap[D]?=some (.cells #[.slice sa r.store.length sc,.slice ra r.refs.length rc,.int .i64 r.gen,.int .i64 r.phase,.slice oa r.pend.objects.length oc,.slice ua r.pend.updates.length uc,.bool r.pend.force] 34 (0,0))∧
  Ax P w r (.slice sa r.store.length sc) (.slice ra r.refs.length rc) (.slice oa r.pend.objects.length oc) (.slice ua r.pend.updates.length uc)
theorem GU.below {P:Nat→Prop} {D:Nat} {w w':World} {r:Am} (h:GU P D w r) (hb:Below w.heap.size w w'):GU P D w' r:=by
 obtain⟨sa,sc,ra,rc,oa,oc,ua,uc,h1,h2⟩:=h;exact⟨sa,sc,ra,rc,oa,oc,ua,uc,Ab h1 hb,h2.below hb⟩
theorem GU.upd {P T:Nat→Prop} {D:Nat} {w w':World} {r:Am} (h:GU P D w r) (hu:AK T w w') (hD:¬T D) (hP:∀b,P b→¬T b):GU P D w' r:=by
 obtain⟨sa,sc,ra,rc,oa,oc,ua,uc,h1,h2⟩:=h;exact⟨sa,sc,ra,rc,oa,oc,ua,uc,hu.blk h1 hD,Ax.upd h2 hu hP⟩
theorem GU.any {P:Nat→Prop} {D:Nat} {w:World} {r:Am} (h:GU P D w r):KH D w r:=by
 obtain⟨sa,sc,ra,rc,oa,oc,ua,uc,h1,h2⟩:=h;exact⟨sa,sc,ra,rc,oa,oc,ua,uc,h1,h2.weaken fun _ _=>trivial⟩
theorem GU.zero (P:Nat→Prop) {D:Nat} {w:World} (h:w.heap[D]?=some (.cells #[.slice none 0 0,.slice none 0 0,.int .i64 0,.int .i64 0,.slice none 0 0,.slice none 0 0,.bool false] 34 (0,0))):GU P D w BE:=
 ⟨none,0,none,0,none,0,none,0,h,Dz _ _⟩
variable [Ghost]
theorem GU.weaken {P P':Nat→Prop} {D:Nat} {w:World} {r:Am} (h:GU P D w r) (hP:∀b,P b→P' b):GU P' D w r:=by
 obtain⟨sa,sc,ra,rc,oa,oc,ua,uc,h1,h2⟩:=h;exact⟨sa,sc,ra,rc,oa,oc,ua,uc,h1,h2.weaken hP⟩
theorem GU.lt {P:Nat→Prop} {D:Nat} {w:World} {r:Am} (h:GU P D w r):GU (fun b=>P b∧b<w.heap.size) D w r:=by
 obtain⟨sa,sc,ra,rc,oa,oc,ua,uc,h1,h2⟩:=h;exact⟨sa,sc,ra,rc,oa,oc,ua,uc,h1,Ax.lt h2⟩
theorem GU.dlt {P:Nat→Prop} {D:Nat} {w:World} {r:Am} (h:GU P D w r):D<w.heap.size:=let⟨_,_,_,_,_,_,_,_,h1,_⟩:=h;lt_of_block h1
def QU (P:Nat→Prop) (w:World):List (Nat×Am)→Prop
 |[]=>True
 |x::l=>GU P x.1 w x.2∧QU P w l
theorem QU.below {P:Nat→Prop} {w w':World}:∀{l:List (Nat×Am)},QU P w l→Below w.heap.size w w'→QU P w' l
 |[],_,_=>trivial
 |_::_,⟨h,hs⟩,hb=>⟨h.below hb,QU.below hs hb⟩
theorem QU.weaken {P P':Nat→Prop} {w:World}:∀{l:List (Nat×Am)},QU P w l→(∀b,P b→P' b)→QU P' w l
 |[],_,_=>trivial
 |_::_,⟨h,hs⟩,hp=>⟨h.weaken hp,QU.weaken hs hp⟩
theorem QU.lt {P:Nat→Prop} {w:World}:∀{l:List (Nat×Am)},QU P w l→QU (fun b=>P b∧b<w.heap.size) w l
 |[],_=>trivial
 |_::_,⟨h,hs⟩=>⟨h.lt,QU.lt hs⟩
theorem QU.upd {P T:Nat→Prop} {w w':World}:∀{l:List (Nat×Am)},QU P w l→AK T w w'→(∀x∈l,¬T x.1)→(∀b,P b→¬T b)→QU P w' l
 |[],_,_,_,_=>trivial
 |x::_,⟨h,hs⟩,hu,hT,hP=>⟨h.upd hu (hT x List.mem_cons_self) hP,QU.upd hs hu (fun y hy=>hT y (List.mem_cons_of_mem _ hy)) hP⟩
def MP (P:Nat→Prop) (D:Nat) (w:World) (p:BM):Prop:=
 ∃oa oc ua uc,w.heap[D]?=some (.cells #[.slice oa p.objects.length oc,.slice ua p.updates.length uc,.bool p.force] 28 (0,0))∧Ai P w (.slice oa p.objects.length oc) p.objects∧AJ P w (.slice ua p.updates.length uc) p.updates
theorem MP.below {P:Nat→Prop} {D:Nat} {w w':World} {p:BM} (h:MP P D w p) (hb:Below w.heap.size w w'):MP P D w' p:=by
 obtain⟨oa,oc,ua,uc,h1,h2,h3⟩:=h;exact⟨oa,oc,ua,uc,Ab h1 hb,h2.below hb,h3.below hb⟩
theorem MP.upd {P T:Nat→Prop} {D:Nat} {w w':World} {p:BM} (h:MP P D w p) (hu:AK T w w') (hD:¬T D) (hP:∀b,P b→¬T b):MP P D w' p:=by
 obtain⟨oa,oc,ua,uc,h1,h2,h3⟩:=h;exact⟨oa,oc,ua,uc,hu.blk h1 hD,h2.upd' hu hP,h3.upd hu hP⟩
theorem MP.weaken {P P':Nat→Prop} {D:Nat} {w:World} {p:BM} (h:MP P D w p) (hP:∀b,P b→P' b):MP P' D w p:=by
 obtain⟨oa,oc,ua,uc,h1,h2,h3⟩:=h;exact⟨oa,oc,ua,uc,h1,h2.weaken hP,h3.weaken hP⟩
theorem MP.lt {P:Nat→Prop} {D:Nat} {w:World} {p:BM} (h:MP P D w p):MP (fun b=>P b∧b<w.heap.size) D w p:=by
 obtain⟨oa,oc,ua,uc,h1,h2,h3⟩:=h;exact⟨oa,oc,ua,uc,h1,h2.lt,h3.lt⟩
variable [Ghost]
def JJ (v u:Value):Prop:=u=v∨(∃i j,v=.int .i64 i∧u=.int .i64 j)∨(∃s t,v=.string s∧u=.string t)∨∃a b,v=.bool a∧u=.bool b
theorem JJ.refl (v:Value):JJ v v:=.inl rfl
theorem JJ.trans {a b c:Value} (h:JJ a b) (k:JJ b c):JJ a c:=by
 rcases h with rfl|⟨i,j,rfl,rfl⟩|⟨s,t,rfl,rfl⟩|⟨x,y,rfl,rfl⟩
 ·exact k
 ·rcases k with rfl|⟨i',j',e,rfl⟩|⟨_,_,e,_⟩|⟨_,_,e,_⟩
  ·exact .inr (.inl ⟨_,_,rfl,rfl⟩)
  ·exact .inr (.inl ⟨_,_,rfl,rfl⟩)
  ·cases e
  ·cases e
 ·rcases k with rfl|⟨_,_,e,_⟩|⟨_,_,e,rfl⟩|⟨_,_,e,_⟩
  ·exact .inr (.inr (.inl ⟨_,_,rfl,rfl⟩))
  ·cases e
  ·exact .inr (.inr (.inl ⟨_,_,rfl,rfl⟩))
  ·cases e
 ·rcases k with rfl|⟨_,_,e,_⟩|⟨_,_,e,_⟩|⟨_,_,e,rfl⟩
  ·exact .inr (.inr (.inr ⟨_,_,rfl,rfl⟩))
  ·cases e
  ·cases e
  ·exact .inr (.inr (.inr ⟨_,_,rfl,rfl⟩))
theorem JJ.slice {a:Option Addr} {n c:Nat} {u:Value} (h:JJ (.slice a n c) u):u=.slice a n c:=by
 rcases h with rfl|⟨_,_,e,_⟩|⟨_,_,e,_⟩|⟨_,_,e,_⟩
 ·rfl
 all_goals cases e
theorem JJ.int {i:Int} {u:Value} (h:JJ (.int .i64 i) u):∃j,u=.int .i64 j:=by
 rcases h with rfl|⟨_,j,_,rfl⟩|⟨_,_,e,_⟩|⟨_,_,e,_⟩
 ·exact⟨_,rfl⟩
 ·exact⟨_,rfl⟩
 all_goals cases e
theorem JJ.str {s:ByteArray} {u:Value} (h:JJ (.string s) u):∃t,u=.string t:=by
 rcases h with rfl|⟨_,_,e,_⟩|⟨_,t,_,rfl⟩|⟨_,_,e,_⟩
 ·exact⟨_,rfl⟩
 ·cases e
 ·exact⟨_,rfl⟩
 ·cases e
structure FX (N:Nat) (w w':World):Prop where
 below:Below N w w'
 frz:∀b o,b<w.heap.size→w'.frozen? ⟨b,o,none⟩=w.frozen? ⟨b,o,none⟩
 cell:∀b o v,w.cell? ⟨b,o,none⟩=some v→∃u,w'.cell? ⟨b,o,none⟩=some u∧JJ v u
theorem FX.of_below {N:Nat} {w w':World} (h:Below w.heap.size w w') (hN:N≤w.heap.size):FX N w w':=
 ⟨h.mono hN,fun b o hb=>by unfold World.frozen?;rw[show w'.heap[(⟨b,o,none⟩:Addr).block]?=w.heap[(⟨b,o,none⟩:Addr).block]? from h.block b hb],fun b o v hv=>⟨v,Ae h hv,.refl v⟩⟩
theorem FX.refl {N:Nat} {w:World} (hN:N≤w.heap.size):FX N w w:=FX.of_below (Below.refl _ _) hN
theorem FX.trans {N:Nat} {a b c:World} (h:FX N a b) (k:FX N b c):FX N a c:=
 ⟨h.below.trans k.below,fun x o hx=>(k.frz x o (Nat.lt_of_lt_of_le hx h.below.size)).trans (h.frz x o hx),fun x o v hv=>by
  obtain⟨u,hu,h1⟩:=h.cell x o v hv;obtain⟨z,hz,h2⟩:=k.cell x o u hu;exact⟨z,hz,h1.trans h2⟩⟩
theorem WW {w:World} {b o:Nat} {v:Value} (h:w.cell? ⟨b,o,none⟩=some v):∃cs t fz,w.heap[b]?=some (.cells cs t fz)∧cs[o]?=some v:=by
 unfold World.cell? at h;split at h
 ·rename_i c t f e
  exact⟨c,t,f,e,by simpa using h⟩
 ·cases h
theorem Zs {w:World} {b o:Nat} {u:Value} {cs:Array Value} {t:TypeId} {fz:Nat×Nat} (h:w.heap[b]?=some (.cells cs t fz)):(w.setCell ⟨b,o,none⟩ u).heap[b]?=some (.cells (cs.setIfInBounds o u) t fz):=by
 simp[World.setCell,Array.getElem?_modify,h]
theorem Rl {w:World} {b o:Nat} {cs:Array Value} {t:TypeId} {fz:Nat×Nat} (h:w.heap[b]?=some (.cells cs t fz)):w.cell? ⟨b,o,none⟩=cs[o]?:=by
 simp[World.cell?,h]
theorem FX.set {N b o:Nat} {w:World} {v u:Value} (hN:N≤b) (hv:w.cell? ⟨b,o,none⟩=some v) (h:JJ v u):FX N w (w.setCell ⟨b,o,none⟩ u):=by
 obtain⟨cs,t,fz,h1,h2⟩:=WW hv;have h3:=Zs (o:=o) (u:=u) h1;have ho:o<cs.size:=(Array.getElem?_eq_some_iff.1 h2).1;refine⟨(Below.refl N w).setCell hN u,fun x p hx=>?_,fun x p z hz=>?_⟩
 ·by_cases e:x=b
  ·subst e
   simp only[World.frozen?,h1,h3]
  ·have h4:(w.setCell ⟨b,o,none⟩ u).heap[x]?=w.heap[x]?:=Below.heap_setCell _ _ _ _ e
   simp only[World.frozen?,h4]
 ·by_cases e:x=b
  ·subst e
   rw[Rl h3];rw[Rl h1] at hz;rw[Array.getElem?_setIfInBounds];by_cases e2:o=p
   ·subst e2
    rw[h2] at hz;cases hz;exact⟨u,by simp[ho],h⟩
   ·rw[if_neg e2];exact⟨z,hz,.refl z⟩
  ·have h4:(w.setCell ⟨b,o,none⟩ u).heap[x]?=w.heap[x]?:=Below.heap_setCell _ _ _ _ e
   refine⟨z,?_,.refl z⟩;rw[World.cell?_of_block (a:=⟨x,p,none⟩) h4];exact hz
def JO (N:Nat) (w:World) (a:Option Addr) (n sz j:Nat):Prop:=0<n→∃b off,a=some ⟨b,off,none⟩∧N≤b∧∀i,i<n→w.frozen? ⟨b,off+i*sz+j,none⟩=false∧∃s,w.cell? ⟨b,off+i*sz+j,none⟩=some (.string s)
def Wq (N:Nat) (w:World) (a:Option Addr) (n:Nat):Prop:=0<n→∃b off,a=some ⟨b,off,none⟩∧N≤b∧∀i,i<n→w.frozen? ⟨b,off+i,none⟩=false∧∃z,w.cell? ⟨b,off+i,none⟩=some (.int .i64 z)
def Qe (N:Nat) (w:World) (a:Option Addr) (n:Nat):Prop:=
 JO N w a n 4 3∧(0<n→∃b off,a=some ⟨b,off,none⟩∧∀i,i<n→∃la ln lc,w.cell? ⟨b,off+i*4+2,none⟩=some (.slice la ln lc)∧ln≤1000000000000000000∧Wq N w la ln)
theorem JO.spl {N:Nat} {w w':World} {a:Option Addr} {n sz j:Nat} (h:JO N w a n sz j) (hs:FX N w w'):JO N w' a n sz j:=fun hn=>by
 obtain⟨b,off,e,hb,hc⟩:=h hn;refine⟨b,off,e,hb,fun i hi=>?_⟩;obtain⟨h1,s,h2⟩:=hc i hi;obtain⟨u,hu,hk⟩:=hs.cell _ _ _ h2;obtain⟨t,rfl⟩:=hk.str;exact⟨(hs.frz _ _ (World.block_lt_of_cell? w _ h2)).trans h1,t,hu⟩
theorem Wq.spl {N:Nat} {w w':World} {a:Option Addr} {n:Nat} (h:Wq N w a n) (hs:FX N w w'):Wq N w' a n:=fun hn=>by
 obtain⟨b,off,e,hb,hc⟩:=h hn;refine⟨b,off,e,hb,fun i hi=>?_⟩;obtain⟨h1,s,h2⟩:=hc i hi;obtain⟨u,hu,hk⟩:=hs.cell _ _ _ h2;obtain⟨t,rfl⟩:=hk.int;exact⟨(hs.frz _ _ (World.block_lt_of_cell? w _ h2)).trans h1,t,hu⟩
theorem Qe.spl {N:Nat} {w w':World} {a:Option Addr} {n:Nat} (h:Qe N w a n) (hs:FX N w w'):Qe N w' a n:=by
 refine⟨h.1.spl hs,fun hn=>?_⟩;obtain⟨b,off,e,hc⟩:=h.2 hn;refine⟨b,off,e,fun i hi=>?_⟩;obtain⟨la,ln,lc,h1,h2,h3⟩:=hc i hi;obtain⟨u,hu,hk⟩:=hs.cell _ _ _ h1;obtain rfl:=hk.slice;exact⟨la,ln,lc,hu,h2,h3.spl hs⟩
theorem MX.cell {w:World} {b off m N:Nat} (h:MX w b off m) (hg:∀b,Ghost.frz b→b<N) (hN:N≤b) {k:Nat} (hk:k<m):w.frozen? ⟨b,off+k,none⟩=false:=by
 rcases h with h|h
 ·have:=hg b h;omega
 ·exact h.2 k hk
theorem Zg {S:Nat→Prop} {N:Nat} {w:World} {a:Option Addr} {n c:Nat} {xs:List Int} (h:Bb S w (.slice a n c) xs) (hS:∀b,S b→N≤b) (hg:∀b,Ghost.frz b→b<N):Wq N w a n:=by
 obtain⟨⟨a',c',hv,_,_,_,h4⟩,_⟩:=h;cases hv;intro hn;obtain⟨b,off,ha,hF,hc⟩:=h4 hn;exact⟨b,off,ha,hS _ hF.1,fun i hi=>⟨hF.2.cell hg (hS _ hF.1) (by omega),_,by simpa using hc i hi 0 _ rfl⟩⟩
theorem UC {S:Nat→Prop} {N:Nat} {w:World} {a:Option Addr} {n c:Nat} {l:List Obj} (h:Ai S w (.slice a n c) l) (hS:∀b,S b→N≤b) (hg:∀b,Ghost.frz b→b<N):Qe N w a n:=by
 obtain⟨lvs,⟨a',c',hv,_,_,h3,h4⟩,h5⟩:=h;cases hv;refine⟨fun hn=>?_,fun hn=>?_⟩
 ·obtain⟨b,off,ha,hF,hc⟩:=h4 hn
  exact⟨b,off,ha,hS _ hF.1,fun i hi=>⟨by rw[Nat.add_assoc];exact hF.2.cell hg (hS _ hF.1) (by omega),_,hc i hi 3 _ rfl⟩⟩
 ·obtain⟨b,off,ha,hF,hc⟩:=h4 hn
  refine⟨b,off,ha,fun i hi=>?_⟩;obtain⟨⟨la,lc⟩,e⟩:=(h5 i hi).1.shape;have h0:=hc i hi 2 _ rfl;have h1:=(h5 i hi).1;rw[e] at h0 h1;obtain⟨⟨_,_,hv2,_,_,g3,_⟩,_⟩:=h1;exact⟨la,_,lc,h0,by omega,Zg (h5 i hi|>.1|>fun h=>by rw[e] at h;exact h) hS hg⟩
theorem TI {S:Nat→Prop} {N:Nat} {w:World} {a:Option Addr} {n c:Nat} {l:List Rf} (h:AB S w (.slice a n c) l) (hS:∀b,S b→N≤b) (hg:∀b,Ghost.frz b→b<N):JO N w a n 2 0:=by
 obtain⟨⟨a',c',hv,_,_,_,h4⟩,_⟩:=h;cases hv;intro hn;obtain⟨b,off,ha,hF,hc⟩:=h4 hn;exact⟨b,off,ha,hS _ hF.1,fun i hi=>⟨by rw[Nat.add_assoc];exact hF.2.cell hg (hS _ hF.1) (by omega),_,hc i hi 0 _ rfl⟩⟩
theorem Vu {S:Nat→Prop} {N:Nat} {w:World} {a:Option Addr} {n c:Nat} {l:List Mv} (h:AJ S w (.slice a n c) l) (hS:∀b,S b→N≤b) (hg:∀b,Ghost.frz b→b<N):JO N w a n 3 0:=by
 obtain⟨⟨a',c',hv,_,_,_,h4⟩,_⟩:=h;cases hv;intro hn;obtain⟨b,off,ha,hF,hc⟩:=h4 hn;exact⟨b,off,ha,hS _ hF.1,fun i hi=>⟨by rw[Nat.add_assoc];exact hF.2.cell hg (hS _ hF.1) (by omega),_,hc i hi 0 _ rfl⟩⟩
theorem Jx (N:Nat) (w:World) (a:Option Addr) (n c:Nat) (hn:n≤1000000000000000000) (h:Qe N w a n) (hN:N≤w.heap.size):
  Calls Tryz.prog 43 #[.slice a n c] w fun e w'=>e=.returned (.tuple #[])∧FX N w w':=by
 have H:=zh h;clear h
 go_enter Tryz.func43, Tryz.ntmps43
 go_wp2_with fail;go_loopw [2] (fun i wr=>∃k:Nat,k≤n∧i=.int .i64 k∧Hid (FX N w wr)) (fun i _=>n-(intOf i).toNat)
 case atStart=>exact⟨0,Nat.zero_le _,rfl,zh (FX.refl hN)⟩
 obtain⟨k,hk,rfl,HS⟩:=hrel;by_cases hlt:k<n
 case neg=>
  obtain rfl:k=n:=by omega
  go_wp2_with fail;go_end0;exact⟨rfl,HS.out⟩
 obtain⟨b,off,rfl,hb,_⟩:=H.out.1 (by omega);obtain⟨b',off',e',hL⟩:=H.out.2 (by omega);cases e';obtain⟨la,ln,lc,hl0,hln,hnum⟩:=hL k hlt;have HL:=zh hl0;have HNu:=zh hnum;have HR:=zh H.out;have hi1:=zk k;have hi2:(k:Int)<(n:Int):=by omega
 clear hL hl0 hnum;have HC:=zh (fun x (hx:FX N w x)=>show x.cell? ⟨b,off+k*4+2,none⟩=some (.slice la ln lc) from by
  obtain⟨u,hu,hk2⟩:=hx.cell _ _ _ HL.out;rw[hk2.slice] at hu;exact hu)
 go_wp2_with fail;go_loopw [3] (fun i wx=>∃j:Nat,j≤ln∧i=.int .i64 j∧Hid (FX N w wx)) (fun i _=>ln-(intOf i).toNat)
 case atStart=>exact⟨0,Nat.zero_le _,rfl,HS⟩
 clear HS;obtain⟨j,hj,rfl,HS⟩:=hrel;have c2:=HC.out _ HS.out;by_cases hlj:j<ln
 case pos=>
  obtain⟨lb,lof,rfl,hlb,hz⟩:=(HNu.out.spl HS.out) (by omega);obtain⟨f0,z,z0⟩:=hz j hlj;have hj1:=zk j;have hj2:(j:Int)<(ln:Int):=by omega
  have HS2:=zh (HS.out.trans (FX.set hlb z0 (u:=.int .i64 (-7)) (.inr (.inl ⟨_,_,rfl,rfl⟩))));clear hz;go_wp2_with fail;go_roundw
  case rel=>exact⟨j+1,by omega,by go_num,HS2⟩
  case measure=>simp[intOf];omega
 obtain rfl:j=ln:=by omega
 obtain⟨b2,off2,e2,hb2,ht⟩:=(HR.out.1.spl HS.out) (by omega);cases e2;obtain⟨f0,s,s0⟩:=ht k hlt;have HS2:=zh (HS.out.trans (FX.set hb2 s0 (u:=.string ⟨#[63]⟩) (.inr (.inr (.inl ⟨_,_,rfl,rfl⟩)))));clear ht;go_wp2_with fail;go_roundw
 case rel=>exact⟨k+1,by omega,by go_num,HS2⟩
 case measure=>simp[intOf];omega
end Go.Proofs.YtgbnlmplkealdaaGreatDoor
