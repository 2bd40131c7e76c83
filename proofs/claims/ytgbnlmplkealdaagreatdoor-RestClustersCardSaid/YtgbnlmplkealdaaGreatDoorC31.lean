
/- RepB: walks of repair. -/
import Derived.Test.YtgbnlmplkealdaaGreatDoorC30
set_option linter.all false
set_option maxHeartbeats 1000000
set_option maxRecDepth 100000
namespace Go.Proofs.YtgbnlmplkealdaaGreatDoor
open Go.RowKit
variable [Ghost]
theorem Pu (w:World) (cs ds es:Array Value) (t u s:TypeId):∃R:World→Prop,SL w R∧In R (((w.alloc (.cells cs t)).alloc (.cells ds u)).alloc (.cells es s))∧
  (∀x,In R x→x.heap[w.heap.size]?=some (.cells cs t (0,0))∧x.heap[w.heap.size+1]?=some (.cells ds u (0,0))∧x.heap[w.heap.size+2]?=some (.cells es s (0,0))):=by
 have hb:Below w.heap.size w (((w.alloc (.cells cs t)).alloc (.cells ds u)).alloc (.cells es s)):=(bal.alloc (by simp) _).alloc (by simp;omega) _;refine⟨_,Ib w _ (w.heap.size+3) (by omega) (by simp) hb,Below.refl _ _,fun x hx=>⟨?_,?_,?_⟩⟩
 ·rw[Below.block hx _ (by omega),Below.heap_alloc _ _ _ (by simp;omega),Below.heap_alloc _ _ _ (by simp)];exact heap_alloc_new w _
 ·rw[Below.block hx _ (by omega),Below.heap_alloc _ _ _ (by simp)];exact KU _ _ _ (by simp)
 ·rw[Below.block hx _ (by omega)];exact KU _ _ _ (by simp)
def Bq (n r:Am):Int:=if n.gen<r.gen then 4 else if Es n.store r.store≠0 then Es n.store r.store else Cd r.store (CE n.store r.store)
def Bh (n r:Am):Am:=if Bq n r=0 then⟨Cs r.store (CE n.store r.store),n.refs,n.gen,0,CU⟩ else BE
def IH (n r:Am):Int:=if Ak n≠0 then Ak n else if Ak r≠0 then Ak r else Bq n r
def Fe (n r:Am):Am:=if IH n r=0 then Bh n r else BE
theorem Ss {l:List Obj} (h:Aj l=0):∀o∈l,∀z∈o.links,z≠0:=by
 intro o ho z hz;obtain⟨k,hk,rfl⟩:=List.getElem_of_mem hz;obtain⟨y,hy,_,h2,_⟩:=Zb h ho hk;obtain⟨i,hi,rfl⟩:=Io hy;have h3:=(GR h).each i hi;rw[DV hk] at h2;rw[←h2];intro e;unfold Aw at h3;have hw:within (obj l i).id 1 99=false:=by rw[e];decide
 simp[hw] at h3
theorem OO {l more:List Obj} (h:Cd l more=0):∀o∈Cs l more,∀z∈o.links,z≠0:=by
 have e:Cs l more=Aq l more more.length:=by unfold Cs;rw[if_pos h]
 rw[e];refine Ss ?_;unfold Cd at h;by_cases h2:An (BT l more) more.length=0
 ·rw[if_pos h2] at h;exact h
 ·rw[if_neg h2] at h;exact absurd h h2
theorem Sq (n r:Am) (sv rv ov uv sv2 rv2 ov2 uv2:Value) (S S':Nat→Prop) (w:World) (h:Ax S w n sv rv ov uv) (h2:Ax S' w r sv2 rv2 ov2 uv2) (hn:n.store.length≤40) (hr:Aj r.store=0):
  Calls Tryz.prog 37 #[AO n sv rv ov uv,AO r sv2 rv2 ov2 uv2] w fun e w'=>Qd (fun b=>S b∨S' b) w w' e (Bh n r) (Bq n r):=by
 have HE:=zh (show Bq n r=if n.gen<r.gen then 4 else if Es n.store r.store≠0 then Es n.store r.store else Cd r.store (CE n.store r.store) from rfl);have HR:=zh (show Bh n r=if Bq n r=0 then⟨Cs r.store (CE n.store r.store),n.refs,n.gen,0,CU⟩ else BE from rfl);have H:=zh h;have G:=zh h2;have hr40:=(BB hr).1;have hrl:(CE n.store r.store).length≤40:=by unfold CE;split;exact Nat.le_trans (Iq _ _) hn;simp
 obtain⟨sa,sc,rfl⟩:=h.store.vshape;obtain⟨⟨ra,rc⟩,rfl⟩:=h.refs.shape;obtain⟨oa,oc,rfl⟩:=h.objs.vshape;obtain⟨⟨ua,uc⟩,rfl⟩:=h.upds.shape;obtain⟨KF,MH,rfl⟩:=h2.store.vshape;obtain⟨⟨ra2,rc2⟩,rfl⟩:=h2.refs.shape;obtain⟨oa2,oc2,rfl⟩:=h2.objs.vshape;obtain⟨⟨ua2,uc2⟩,rfl⟩:=h2.upds.shape;clear h h2;simp only[AO];obtain⟨Q,hQ,hQ1,HB0⟩:=Pu w (c7 n sa sc ra rc oa oc ua uc)
  (c7 r KF MH ra2 rc2 oa2 oc2 ua2 uc2) Ft 34 34 34
 have hQn:=hQ.next
 have HB:=zh HB0;have HD:=zh (fun x (hx:In Q x)=>US n.store r.store _ _ _ _ x (H.out.store.lt.below (hQ.below _ hx)) (G.out.store.below (hQ.below _ hx)) (AS hr) (by omega));have HW:=zh (fun x (hx:In Q x) mv S3 (hm:Ai S3 x mv (CE n.store r.store))=>PX r.store (CE n.store r.store) _ mv _ S3 x (G.out.store.lt.below (hQ.below _ hx)) hm (AS hr) (by omega) (by omega));have y0:=fun x (hx:In Q x)=>Aa (j:=0) (HB0 x hx).1 rfl
 have y1:=fun x (hx:In Q x)=>Aa (j:=1) (HB0 x hx).1 rfl
 have y2:=fun x (hx:In Q x)=>Aa (j:=2) (HB0 x hx).1 rfl
 have z0:=fun x (hx:In Q x)=>Aa (j:=0) (HB0 x hx).2.1 rfl
 have z2:=fun x (hx:In Q x)=>Aa (j:=2) (HB0 x hx).2.1 rfl
 have y21:=y2 _ hQ1;have z21:=z2 _ hQ1;clear HB0;have hz7:(Ft:Array Value)=z7:=rfl;rw[hz7] at hQ1 HB y21 z21;clear hz7;by_cases hg:n.gen<r.gen
 ·have HE2:=zh (show Bq n r=4 by rw[HE.out,if_pos hg])
  have HR2:=zh (show Bh n r=BE by rw[HR.out,HE2.out];rfl);have hd:decide (n.gen<r.gen)=true:=decide_eq_true hg;clear HE HR hg HD HW;obtain⟨w3,hw3⟩:∃w3:World,w3=((w.alloc (.cells (c7 n sa sc ra rc oa oc ua uc) 34)).alloc (.cells (c7 r KF MH ra2 rc2 oa2 oc2 ua2 uc2) 34)).alloc (.cells z7 34):=⟨_,rfl⟩;have hQ13:In Q w3:=by rw[hw3];exact hQ1
  have Hw3:=zh hw3;clear hw3
  go_enter Tryz.func37, Tryz.ntmps37
  have hblk:=(HB.out _ hQ1).2.2;obtain⟨g0,g1,g2,g3,g4,g5,g6⟩:=bc7 hblk;obtain⟨f0,f1,f2,f3,f4,f5,f6⟩:=bf7 hblk;go_wp2_with fail;rw[←Hw3.out];obtain⟨k0,k1,k2,k3,k4,k5,k6⟩:=bc7 (HB.out _ hQ13).2.2;have hB7:=hQ.below _ hQ13;clear g0 g1 g2 g3 g4 g5 g6 f0 f1 f2 f3 f4 f5 f6 hblk;refine bodyPost_ret (v:=.tuple #[.agg z7,.int .i64 4]) (by simp[results,Tryz.results37,go_sem];simp[k0,k1,k2,k3,k4,k5,k6]<;>rfl) rfl ?_;rw[HR2.out,HE2.out];exact⟨_,_,_,_,rfl,Dz _ _,hB7⟩
 ·rw[if_neg hg] at HE
  have hd:decide (n.gen<r.gen)=false:=decide_eq_false hg;clear hg;have y01:=y0 _ hQ1;have z01:=z0 _ hQ1;by_cases h1:Es n.store r.store=0
  ·rw[if_neg (by simpa using h1)] at HE
   rw[h1] at HD;clear h1;by_cases h3:Cd r.store (CE n.store r.store)=0
   ·have HE2:=zh (show Bq n r=0 by rw[HE.out,h3])
    have HR2:=zh (show Bh n r=⟨Cs r.store (CE n.store r.store),n.refs,n.gen,0,CU⟩ by rw[HR.out,if_pos HE2.out]);have HWl:=zh (OO h3);rw[h3] at HW;clear h3 HE HR
    go_enter Tryz.func37, Tryz.ntmps37
    go_wp2_with fail;refine(HD.out _ hQ1).mono ?_;rintro e w1 ⟨v1,rfl,hv1,hb1⟩;obtain⟨a1,c1,rfl⟩:=hv1.vshape;have hQ2:=hQn _ _ hQ1 hb1;have Hv1:=zh hv1;have z02:=z0 _ hQ2;clear hv1 hb1 y21 z21 y01 z01;go_wp2_with fail;refine(HW.out _ hQ2 _ _ Hv1.out).mono ?_;rintro e w2 ⟨v2,rfl,hv2,hb2⟩;obtain⟨a2,c2,rfl⟩:=hv2.vshape;have hQ3:=hQn _ _ hQ2 hb2;have Hv2:=zh (hv2.weaken (S':=fun b=>((S b∨S' b)∧b<w.heap.size)∨w.heap.size+2<b) (fun b hb=>by
     have e1:=lt_of_block (HB.out _ hQ1).2.2;have e2:=lt_of_block (HB.out _ hQ2).2.2;rcases hb with(h|h|h)|h
     ·exact .inl ⟨.inr h.1,h.2⟩
     ·exact .inl ⟨.inl h.1,h.2⟩
     ·exact .inr (Nat.lt_of_lt_of_le e1 h)
     ·exact .inr (Nat.lt_of_lt_of_le e2 h)))
    clear hv2 hb2 z02;have y13:=y1 _ hQ3;have y23:=y2 _ hQ3;have hblk:=(HB.out _ hQ3).2.2;obtain⟨g0,g1,g2,g3,g4,g5,g6⟩:=bc7 hblk;obtain⟨f0,f1,f2,f3,f4,f5,f6⟩:=bf7 hblk;go_wp2_with fail;change bodyPost _ _ _ _ _ (Bg (w.heap.size+2) (.slice a2 (Cs r.store (CE n.store r.store)).length c2) (.slice ra n.refs.length rc) (.int .i64 n.gen) (.int .i64 0) (.slice none 0 0) (.slice none 0 0) (.bool false) w2);have hb7:=AZ (v0:=.slice a2 (Cs r.store (CE n.store r.store)).length c2) (v1:=.slice ra n.refs.length rc) (v2:=.int .i64 n.gen) (v3:=.int .i64 0) (v4:=.slice none 0 0) (v5:=.slice none 0 0) (v6:=.bool false) hblk;have hu7:=AM (w.heap.size+2) (.slice a2 (Cs r.store (CE n.store r.store)).length c2) (.slice ra n.refs.length rc) (.int .i64 n.gen) (.int .i64 0) (.slice none 0 0) (.slice none 0 0) (.bool false) w2;generalize Bg (w.heap.size+2) (.slice a2 (Cs r.store (CE n.store r.store)).length c2) (.slice ra n.refs.length rc) (.int .i64 n.gen) (.int .i64 0) (.slice none 0 0) (.slice none 0 0) (.bool false) w2=w7 at*;obtain⟨k0,k1,k2,k3,k4,k5,k6⟩:=bc7 hb7;clear g0 g1 g2 g3 g4 g5 g6 f0 f1 f2 f3 f4 f5 f6 hblk hb7;have hsz:=(hQ.below _ hQ3).size;have hB7:Below w.heap.size w w7:=(hQ.below _ hQ3).trans (hu7.below (B:=w.heap.size) hsz (fun b hb=>by omega));refine bodyPost_ret (v:=.tuple #[.agg #[.slice a2 (Cs r.store (CE n.store r.store)).length c2,.slice ra n.refs.length rc,.int .i64 n.gen,.int .i64 0,.slice none 0 0,.slice none 0 0,.bool false],.int .i64 0]) (by simp[results,Tryz.results37,go_sem];simp[k0,k1,k2,k3,k4,k5,k6]<;>rfl) rfl ?_
    have hrl2:=(H.out.refs.lt.below (hQ.below _ hQ3)).upd hu7 (fun b hb e=>by omega);rw[HR2.out,HE2.out];exact⟨_,_,_,_,rfl,⟨(Hv2.out.upd' hu7 (fun b hb e=>by rcases hb with h|h;exact absurd e (by have:=h.2;omega);omega)).weaken fun b hb=>hb.elim (fun h=>.inl h.1) (fun h=>.inr (by omega)),hrl2.weaken fun b hb=>.inl (.inl hb.1),Ai.nil _ _ _ _ (by omega),AJ.nil _ _ _ _ (by omega),H.out.gen,by show Dy 0;unfold Dy;decide⟩,hB7⟩
   ·have HE2:=zh (show Bq n r=Cd r.store (CE n.store r.store) from HE.out)
    have HR2:=zh (show Bh n r=BE by rw[HR.out,HE2.out,if_neg h3]);have hq:(Cd r.store (CE n.store r.store) !=0)=true:=by simpa using h3
    clear h3 HE HR;generalize Cd r.store (CE n.store r.store)=we at*
    go_enter Tryz.func37, Tryz.ntmps37
    go_wp2_with fail;refine(HD.out _ hQ1).mono ?_;rintro e w1 ⟨v1,rfl,hv1,hb1⟩;obtain⟨a1,c1,rfl⟩:=hv1.vshape;have hQ2:=hQn _ _ hQ1 hb1;have Hv1:=zh hv1;have z02:=z0 _ hQ2;clear hv1 hb1 y21 z21 y01 z01;go_wp2_with fail;refine(HW.out _ hQ2 _ _ Hv1.out).mono ?_;rintro e w2 ⟨v2,rfl,hv2,hb2⟩;obtain⟨a2,c2,rfl⟩:=hv2.vshape;have hQ3:=hQn _ _ hQ2 hb2;clear hv2 hb2 z02;have hblk:=(HB.out _ hQ3).2.2;obtain⟨g0,g1,g2,g3,g4,g5,g6⟩:=bc7 hblk;obtain⟨f0,f1,f2,f3,f4,f5,f6⟩:=bf7 hblk;go_wp2_with fail;change bodyPost _ _ _ _ _ (Bg (w.heap.size+2) (.slice none 0 0) (.slice none 0 0) (.int .i64 0) (.int .i64 0) (.slice none 0 0) (.slice none 0 0) (.bool false) w2);have hb7:=AZ (v0:=.slice none 0 0) (v1:=.slice none 0 0) (v2:=.int .i64 0) (v3:=.int .i64 0) (v4:=.slice none 0 0) (v5:=.slice none 0 0) (v6:=.bool false) hblk;have hu7:=AM (w.heap.size+2) (.slice none 0 0) (.slice none 0 0) (.int .i64 0) (.int .i64 0) (.slice none 0 0) (.slice none 0 0) (.bool false) w2;generalize Bg (w.heap.size+2) (.slice none 0 0) (.slice none 0 0) (.int .i64 0) (.int .i64 0) (.slice none 0 0) (.slice none 0 0) (.bool false) w2=w7 at*;obtain⟨k0,k1,k2,k3,k4,k5,k6⟩:=bc7 hb7;clear g0 g1 g2 g3 g4 g5 g6 f0 f1 f2 f3 f4 f5 f6 hblk hb7;have hsz:=(hQ.below _ hQ3).size;have hB7:Below w.heap.size w w7:=(hQ.below _ hQ3).trans (hu7.below (B:=w.heap.size) hsz (fun b hb=>by omega));refine bodyPost_ret (v:=.tuple #[.agg z7,.int .i64 we]) (by simp[results,Tryz.results37,go_sem];simp[k0,k1,k2,k3,k4,k5,k6]<;>rfl) rfl ?_;rw[HR2.out,HE2.out]
    exact⟨_,_,_,_,rfl,Dz _ _,hB7⟩
  ·rw[if_pos h1] at HE
   have HE2:=HE;have HR2:=zh (show Bh n r=BE by rw[HR.out,HE2.out,if_neg h1]);have hq:(Es n.store r.store !=0)=true:=by simpa using h1
   clear h1 HE HR HW;generalize Es n.store r.store=re at*
   go_enter Tryz.func37, Tryz.ntmps37
   go_wp2_with fail;refine(HD.out _ hQ1).mono ?_;rintro e w1 ⟨v1,rfl,hv1,hb1⟩;obtain⟨a1,c1,rfl⟩:=hv1.vshape;have hQ2:=hQn _ _ hQ1 hb1;have Hv1:=zh hv1;have z02:=z0 _ hQ2;clear hv1 hb1 y21 z21 y01 z01;have hblk:=(HB.out _ hQ2).2.2;obtain⟨g0,g1,g2,g3,g4,g5,g6⟩:=bc7 hblk;obtain⟨f0,f1,f2,f3,f4,f5,f6⟩:=bf7 hblk;go_wp2_with fail;change bodyPost _ _ _ _ _ (Bg (w.heap.size+2) (.slice none 0 0) (.slice none 0 0) (.int .i64 0) (.int .i64 0) (.slice none 0 0) (.slice none 0 0) (.bool false) w1);have hb7:=AZ (v0:=.slice none 0 0) (v1:=.slice none 0 0) (v2:=.int .i64 0) (v3:=.int .i64 0) (v4:=.slice none 0 0) (v5:=.slice none 0 0) (v6:=.bool false) hblk;have hu7:=AM (w.heap.size+2) (.slice none 0 0) (.slice none 0 0) (.int .i64 0) (.int .i64 0) (.slice none 0 0) (.slice none 0 0) (.bool false) w1;generalize Bg (w.heap.size+2) (.slice none 0 0) (.slice none 0 0) (.int .i64 0) (.int .i64 0) (.slice none 0 0) (.slice none 0 0) (.bool false) w1=w7 at*;obtain⟨k0,k1,k2,k3,k4,k5,k6⟩:=bc7 hb7;clear g0 g1 g2 g3 g4 g5 g6 f0 f1 f2 f3 f4 f5 f6 hblk hb7;have hsz:=(hQ.below _ hQ2).size;have hB7:Below w.heap.size w w7:=(hQ.below _ hQ2).trans (hu7.below (B:=w.heap.size) hsz (fun b hb=>by omega));refine bodyPost_ret (v:=.tuple #[.agg z7,.int .i64 re]) (by simp[results,Tryz.results37,go_sem];simp[k0,k1,k2,k3,k4,k5,k6]<;>rfl) rfl ?_;rw[HR2.out,HE2.out];exact⟨_,_,_,_,rfl,Dz _ _,hB7⟩
theorem Gy (n r:Am) (sv rv ov uv sv2 rv2 ov2 uv2:Value) (S S':Nat→Prop) (w:World) (h:Ax S w n sv rv ov uv) (h2:Ax S' w r sv2 rv2 ov2 uv2) (hn:n.store.length≤40) (hr:Aj r.store=0):
  Calls Tryz.prog 52 #[AO n sv rv ov uv,AO r sv2 rv2 ov2 uv2] w fun e w'=>Fu w w' e (Bh n r) (Bq n r):=by
 have HE:=zh (show Bq n r=if n.gen<r.gen then 4 else if Es n.store r.store≠0 then Es n.store r.store else Cd r.store (CE n.store r.store) from rfl);have HR:=zh (show Bh n r=if Bq n r=0 then⟨Cs r.store (CE n.store r.store),n.refs,n.gen,0,CU⟩ else BE from rfl);have H:=zh h;have G:=zh h2;have hr40:=(BB hr).1;have hrl:(CE n.store r.store).length≤40:=by unfold CE;split;exact Nat.le_trans (Iq _ _) hn;simp
 obtain⟨sa,sc,rfl⟩:=h.store.vshape;obtain⟨⟨ra,rc⟩,rfl⟩:=h.refs.shape;obtain⟨oa,oc,rfl⟩:=h.objs.vshape;obtain⟨⟨ua,uc⟩,rfl⟩:=h.upds.shape;obtain⟨KF,MH,rfl⟩:=h2.store.vshape;obtain⟨⟨ra2,rc2⟩,rfl⟩:=h2.refs.shape;obtain⟨oa2,oc2,rfl⟩:=h2.objs.vshape;obtain⟨⟨ua2,uc2⟩,rfl⟩:=h2.upds.shape;clear h h2;simp only[AO];obtain⟨Q,hQ,hQ1,HB0⟩:=Pu w (c7 n sa sc ra rc oa oc ua uc)
  (c7 r KF MH ra2 rc2 oa2 oc2 ua2 uc2) Ft 34 34 34
 have hQn:=hQ.next
 have HB:=zh HB0;have HD:=zh (fun x (hx:In Q x)=>Rt n.store r.store _ _ _ _ x (H.out.store.below (hQ.below _ hx)) (G.out.store.below (hQ.below _ hx)) (AS hr) (by omega));have HW:=zh (fun x (hx:In Q x) mv S3 (hm:Ai S3 x mv (CE n.store r.store))=>PY r.store (CE n.store r.store) _ mv _ S3 x (G.out.store.below (hQ.below _ hx)) hm (AS hr) (by omega) (by omega));have y0:=fun x (hx:In Q x)=>Aa (j:=0) (HB0 x hx).1 rfl
 have y1:=fun x (hx:In Q x)=>Aa (j:=1) (HB0 x hx).1 rfl
 have y2:=fun x (hx:In Q x)=>Aa (j:=2) (HB0 x hx).1 rfl
 have z0:=fun x (hx:In Q x)=>Aa (j:=0) (HB0 x hx).2.1 rfl
 have z2:=fun x (hx:In Q x)=>Aa (j:=2) (HB0 x hx).2.1 rfl
 have y21:=y2 _ hQ1;have z21:=z2 _ hQ1;clear HB0;have hz7:(Ft:Array Value)=z7:=rfl;rw[hz7] at hQ1 HB y21 z21;clear hz7;by_cases hg:n.gen<r.gen
 ·have HE2:=zh (show Bq n r=4 by rw[HE.out,if_pos hg])
  have HR2:=zh (show Bh n r=BE by rw[HR.out,HE2.out];rfl);have hd:decide (n.gen<r.gen)=true:=decide_eq_true hg;clear HE HR hg HD HW;obtain⟨w3,hw3⟩:∃w3:World,w3=((w.alloc (.cells (c7 n sa sc ra rc oa oc ua uc) 34)).alloc (.cells (c7 r KF MH ra2 rc2 oa2 oc2 ua2 uc2) 34)).alloc (.cells z7 34):=⟨_,rfl⟩;have hQ13:In Q w3:=by rw[hw3];exact hQ1
  have Hw3:=zh hw3;clear hw3
  go_enter Tryz.func52, Tryz.ntmps52
  have hblk:=(HB.out _ hQ1).2.2;obtain⟨g0,g1,g2,g3,g4,g5,g6⟩:=bc7 hblk;obtain⟨f0,f1,f2,f3,f4,f5,f6⟩:=bf7 hblk;go_wp2_with fail;rw[←Hw3.out];obtain⟨k0,k1,k2,k3,k4,k5,k6⟩:=bc7 (HB.out _ hQ13).2.2;have hB7:=hQ.below _ hQ13;clear g0 g1 g2 g3 g4 g5 g6 f0 f1 f2 f3 f4 f5 f6 hblk;refine bodyPost_ret (v:=.tuple #[.agg z7,.int .i64 4]) (by simp[results,Tryz.results52,go_sem];simp[k0,k1,k2,k3,k4,k5,k6]<;>rfl) rfl ?_;rw[HR2.out,HE2.out];exact⟨_,_,_,_,rfl,Dz _ _,hB7⟩
 ·rw[if_neg hg] at HE
  have hd:decide (n.gen<r.gen)=false:=decide_eq_false hg;clear hg;have y01:=y0 _ hQ1;have z01:=z0 _ hQ1;by_cases h1:Es n.store r.store=0
  ·rw[if_neg (by simpa using h1)] at HE
   rw[h1] at HD;clear h1;by_cases h3:Cd r.store (CE n.store r.store)=0
   ·have HE2:=zh (show Bq n r=0 by rw[HE.out,h3])
    have HR2:=zh (show Bh n r=⟨Cs r.store (CE n.store r.store),n.refs,n.gen,0,CU⟩ by rw[HR.out,if_pos HE2.out]);have HWl:=zh (OO h3);rw[h3] at HW;clear h3 HE HR
    go_enter Tryz.func52, Tryz.ntmps52
    go_wp2_with fail;refine(HD.out _ hQ1).mono ?_;rintro e w1 ⟨v1,rfl,hv1,hb1⟩;obtain⟨a1,c1,rfl⟩:=hv1.vshape;have hQ2:=hQn _ _ hQ1 hb1;have Hv1:=zh hv1;have z02:=z0 _ hQ2;clear hv1 hb1 y21 z21 y01 z01;go_wp2_with fail;refine(HW.out _ hQ2 _ _ Hv1.out).mono ?_;rintro e w2 ⟨v2,rfl,hv2,hb2⟩;obtain⟨a2,c2,rfl⟩:=hv2.vshape;have hQ3:=hQn _ _ hQ2 hb2;have Hv2:=zh (hv2.weaken (S':=fun b=>w.heap.size+2<b) (fun b hb=>by have:=lt_of_block (HB.out _ hQ2).2.2;omega));clear hv2 hb2 z02;have HCl:=zh (fun x (hx:In Q x)=>Gl n.refs _ _ x (H.out.refs.below (hQ.below _ hx)));have h24:=H.out.refs.bytes;clear y0 z0 z2 HD HW;obtain⟨wo,rfl⟩:∃wo:World,wo=w2:=⟨_,rfl⟩;go_wp2_with fail;refine rh (fun x:World=>x.cell? ⟨w.heap.size,1,none⟩=some (.slice ra n.refs.length rc)∧x.cell? ⟨w.heap.size,2,none⟩=some (.int .i64 n.gen)) ?_;have hC0:=hQ.drew _ hQ3;have Hv3:=zh (Hv2.out.below (Kq _ _ (Below.refl _ _)));generalize wo.drew=x0 at hC0 Hv3⊢;have hS0:=And.intro (y1 _ hC0) (y2 _ hC0);refine tk 4 (.pointer (some ⟨w.heap.size,2,none⟩)) (fun w hSw=>?_) hS0 ?_
    ·go_simp
    simp only[tkS];refine tk 5 (.int .i64 n.gen) (fun w hSw=>?_) hS0 ?_
    ·have yy:=hSw.2;go_simp
    simp only[tkS];refine tk 1 (.pointer (some ⟨w.heap.size,1,none⟩)) (fun w hSw=>?_) hS0 ?_
    ·go_simp
    simp only[tkS];refine tk 2 (.slice ra n.refs.length rc) (fun w hSw=>?_) hS0 ?_
    ·have yy:=hSw.1;go_simp
    simp only[tkS];refine tk 0 (.slice a2 (Cs r.store (CE n.store r.store)).length c2) (fun w hSw=>?_) hS0 ?_
    ·go_simp
    simp only[tkS];refine al1 3 ?_;refine Or.inl ?_;go_wp2_with fail;refine(HCl.out _ hC0).mono ?_;rintro e x1 ⟨v,rfl,hv,hb⟩;obtain⟨a3,c3,rfl⟩:=hv.shape;have hC2:=hQn _ _ hC0 hb;have Hv4:=zh (Hv3.out.below hb);have Hr4:=zh ((hv.refs h24).weaken (S':=fun b=>x0.heap.size≤b) fun _ h=>h.1);have hx0:=(HB.out _ hC0).2.2;have hlt0:w.heap.size+2<x0.heap.size:=lt_of_block hx0;clear hv hb Hv3 Hv2;go_simp;refine al1 6 ?_;refine Or.inl ?_;go_simp;refine al1 7 ?_;refine Or.inl ?_;have hblk:=(HB.out _ hC2).2.2;obtain⟨g0,g1,g2,g3,g4,g5,g6⟩:=bc7 hblk;obtain⟨f0,f1,f2,f3,f4,f5,f6⟩:=bf7 hblk;have hb7:=AZ (v0:=.slice a2 (Cs r.store (CE n.store r.store)).length c2) (v1:=.slice a3 n.refs.length c3) (v2:=.int .i64 n.gen) (v3:=.int .i64 0) (v4:=.slice none 0 0) (v5:=.slice none 0 0) (v6:=.bool false) hblk;have hu7:=AM (w.heap.size+2) (.slice a2 (Cs r.store (CE n.store r.store)).length c2) (.slice a3 n.refs.length c3) (.int .i64 n.gen) (.int .i64 0) (.slice none 0 0) (.slice none 0 0) (.bool false) x1;have HS7:=zh (And.intro (hu7.cell (y1 _ hC2) (by simp)) (hu7.cell (y2 _ hC2) (by simp)));have HS1:=zh (And.intro (y1 _ hC2) (y2 _ hC2));have Hb7:=zh hb7;have Hu7:=zh hu7;clear hb7 hu7 y1 y2;go_wp2_with fail;refine⟨HS1.out,?_⟩;change wpAnyH _ _ _ _ _ _ _ _ (Bg (w.heap.size+2) (.slice a2 (Cs r.store (CE n.store r.store)).length c2) (.slice a3 n.refs.length c3) (.int .i64 n.gen) (.int .i64 0) (.slice none 0 0) (.slice none 0 0) (.bool false) x1);have hb7:=Hb7.out;have hu7:=Hu7.out;have hS7:=HS7.out;clear Hb7 Hu7 HS7
    generalize Bg (w.heap.size+2) (.slice a2 (Cs r.store (CE n.store r.store)).length c2) (.slice a3 n.refs.length c3) (.int .i64 n.gen) (.int .i64 0) (.slice none 0 0) (.slice none 0 0) (.bool false) x1=w7 at*;obtain⟨k0,k1,k2,k3,k4,k5,k6⟩:=bc7 hb7;clear g0 g1 g2 g3 g4 g5 g6 f0 f1 f2 f3 f4 f5 f6 hblk hb7;have hsz:=(hQ.below _ hC2).size;have hB7:Below w.heap.size w w7:=(hQ.below _ hC2).trans (hu7.below (B:=w.heap.size) hsz (fun b hb=>by omega));refine al1 8 ?_;refine Or.inl ?_;go_wp2_with fail
    first|refine⟨hS7,?_⟩|skip
    refine wpAnyH_done (by kernel_rfl) ?_ _;go_wp2_with fail;refine bodyPost_ret (v:=.tuple #[.agg #[.slice a2 (Cs r.store (CE n.store r.store)).length c2,.slice a3 n.refs.length c3,.int .i64 n.gen,.int .i64 0,.slice none 0 0,.slice none 0 0,.bool false],.int .i64 0]) (by simp[results,Tryz.results52,go_sem];simp[k0,k1,k2,k3,k4,k5,k6]<;>rfl) rfl ?_;have hrl2:=Hr4.out.upd hu7 (fun b hb e=>by omega);rw[HR2.out,HE2.out];exact⟨_,_,_,_,rfl,⟨(Hv4.out.upd' hu7 (fun b hb e=>by omega)).weaken fun b hb=>by omega,hrl2.weaken fun b hb=>by omega,Ai.nil _ _ _ _ (by omega),AJ.nil _ _ _ _ (by omega),H.out.gen,by show Dy 0;unfold Dy;decide⟩,hB7⟩
   ·have HE2:=zh (show Bq n r=Cd r.store (CE n.store r.store) from HE.out)
    have HR2:=zh (show Bh n r=BE by rw[HR.out,HE2.out,if_neg h3]);have hq:(Cd r.store (CE n.store r.store) !=0)=true:=by simpa using h3
    clear h3 HE HR;generalize Cd r.store (CE n.store r.store)=we at*
    go_enter Tryz.func52, Tryz.ntmps52
    go_wp2_with fail;refine(HD.out _ hQ1).mono ?_;rintro e w1 ⟨v1,rfl,hv1,hb1⟩;obtain⟨a1,c1,rfl⟩:=hv1.vshape;have hQ2:=hQn _ _ hQ1 hb1;have Hv1:=zh hv1;have z02:=z0 _ hQ2;clear hv1 hb1 y21 z21 y01 z01;go_wp2_with fail;refine(HW.out _ hQ2 _ _ Hv1.out).mono ?_;rintro e w2 ⟨v2,rfl,hv2,hb2⟩;obtain⟨a2,c2,rfl⟩:=hv2.vshape;have hQ3:=hQn _ _ hQ2 hb2;clear hv2 hb2 z02;have hblk:=(HB.out _ hQ3).2.2;obtain⟨g0,g1,g2,g3,g4,g5,g6⟩:=bc7 hblk;obtain⟨f0,f1,f2,f3,f4,f5,f6⟩:=bf7 hblk;go_wp2_with fail;change bodyPost _ _ _ _ _ (Bg (w.heap.size+2) (.slice none 0 0) (.slice none 0 0) (.int .i64 0) (.int .i64 0) (.slice none 0 0) (.slice none 0 0) (.bool false) w2);have hb7:=AZ (v0:=.slice none 0 0) (v1:=.slice none 0 0) (v2:=.int .i64 0) (v3:=.int .i64 0) (v4:=.slice none 0 0) (v5:=.slice none 0 0) (v6:=.bool false) hblk;have hu7:=AM (w.heap.size+2) (.slice none 0 0) (.slice none 0 0) (.int .i64 0) (.int .i64 0) (.slice none 0 0) (.slice none 0 0) (.bool false) w2;generalize Bg (w.heap.size+2) (.slice none 0 0) (.slice none 0 0) (.int .i64 0) (.int .i64 0) (.slice none 0 0) (.slice none 0 0) (.bool false) w2=w7 at*;obtain⟨k0,k1,k2,k3,k4,k5,k6⟩:=bc7 hb7;clear g0 g1 g2 g3 g4 g5 g6 f0 f1 f2 f3 f4 f5 f6 hblk hb7;have hsz:=(hQ.below _ hQ3).size;have hB7:Below w.heap.size w w7:=(hQ.below _ hQ3).trans (hu7.below (B:=w.heap.size) hsz (fun b hb=>by omega));refine bodyPost_ret (v:=.tuple #[.agg z7,.int .i64 we]) (by simp[results,Tryz.results52,go_sem];simp[k0,k1,k2,k3,k4,k5,k6]<;>rfl) rfl ?_;rw[HR2.out,HE2.out]
    exact⟨_,_,_,_,rfl,Dz _ _,hB7⟩
  ·rw[if_pos h1] at HE
   have HE2:=HE;have HR2:=zh (show Bh n r=BE by rw[HR.out,HE2.out,if_neg h1]);have hq:(Es n.store r.store !=0)=true:=by simpa using h1
   clear h1 HE HR HW;generalize Es n.store r.store=re at*
   go_enter Tryz.func52, Tryz.ntmps52
   go_wp2_with fail;refine(HD.out _ hQ1).mono ?_;rintro e w1 ⟨v1,rfl,hv1,hb1⟩;obtain⟨a1,c1,rfl⟩:=hv1.vshape;have hQ2:=hQn _ _ hQ1 hb1;have Hv1:=zh hv1;have z02:=z0 _ hQ2;clear hv1 hb1 y21 z21 y01 z01;have hblk:=(HB.out _ hQ2).2.2;obtain⟨g0,g1,g2,g3,g4,g5,g6⟩:=bc7 hblk;obtain⟨f0,f1,f2,f3,f4,f5,f6⟩:=bf7 hblk;go_wp2_with fail;change bodyPost _ _ _ _ _ (Bg (w.heap.size+2) (.slice none 0 0) (.slice none 0 0) (.int .i64 0) (.int .i64 0) (.slice none 0 0) (.slice none 0 0) (.bool false) w1);have hb7:=AZ (v0:=.slice none 0 0) (v1:=.slice none 0 0) (v2:=.int .i64 0) (v3:=.int .i64 0) (v4:=.slice none 0 0) (v5:=.slice none 0 0) (v6:=.bool false) hblk;have hu7:=AM (w.heap.size+2) (.slice none 0 0) (.slice none 0 0) (.int .i64 0) (.int .i64 0) (.slice none 0 0) (.slice none 0 0) (.bool false) w1;generalize Bg (w.heap.size+2) (.slice none 0 0) (.slice none 0 0) (.int .i64 0) (.int .i64 0) (.slice none 0 0) (.slice none 0 0) (.bool false) w1=w7 at*;obtain⟨k0,k1,k2,k3,k4,k5,k6⟩:=bc7 hb7;clear g0 g1 g2 g3 g4 g5 g6 f0 f1 f2 f3 f4 f5 f6 hblk hb7;have hsz:=(hQ.below _ hQ2).size;have hB7:Below w.heap.size w w7:=(hQ.below _ hQ2).trans (hu7.below (B:=w.heap.size) hsz (fun b hb=>by omega));refine bodyPost_ret (v:=.tuple #[.agg z7,.int .i64 re]) (by simp[results,Tryz.results52,go_sem];simp[k0,k1,k2,k3,k4,k5,k6]<;>rfl) rfl ?_;rw[HR2.out,HE2.out];exact⟨_,_,_,_,rfl,Dz _ _,hB7⟩
end Go.Proofs.YtgbnlmplkealdaaGreatDoor
