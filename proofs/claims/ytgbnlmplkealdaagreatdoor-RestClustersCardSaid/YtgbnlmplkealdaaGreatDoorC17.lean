
/- RepA: RepA, RepW. -/
import Derived.Test.YtgbnlmplkealdaaGreatDoorC16
set_option linter.all false
set_option maxHeartbeats 4000000
set_option maxRecDepth 100000
namespace Go.Proofs.YtgbnlmplkealdaaGreatDoor
open Go.RowKit
variable [Ghost]
def BR (p:BM):Bool:=decide (p.objects.length=0) && decide (p.updates.length=0) && !p.force
def Ak (r:Am):Int:=if Ap r.refs r.store≠0 then Ap r.refs r.store else if within r.gen 0 999=false then 3 else if within r.phase 0 2=false then 7 else if r.phase≠0 then As r.pend else if BR r.pend=true then 0 else 1
def Fz (a b:BM):Bool:=BZ a.objects b.objects && DS a.updates b.updates && (a.force==b.force)
theorem Ep (a b:BM):Fz a b=true↔a=b:=by
 unfold Fz;rw[Bool.and_eq_true,Bool.and_eq_true,Gz,ME,beq_iff_eq];constructor
 ·rintro⟨⟨h1,h2⟩,h3⟩;cases a;cases b;simp_all
 ·rintro rfl;exact⟨⟨rfl,rfl⟩,rfl⟩
theorem Lp (p:BM):Fz p CU=BR p:=by
 rw[Bool.eq_iff_iff,Ep];unfold BR;obtain⟨l,us,f⟩:=p;cases f<;>simp[CU,List.length_eq_zero_iff]
def Eh (a b:Am):Bool:=BZ a.store b.store && BF a.refs b.refs && (a.gen==b.gen) && (a.phase==b.phase) && Fz a.pend b.pend
theorem MG (a b:Am):Eh a b=true↔a=b:=by
 unfold Eh;rw[Bool.and_eq_true,Bool.and_eq_true,Bool.and_eq_true,Bool.and_eq_true,Gz,ED,beq_iff_eq,beq_iff_eq,Ep];constructor
 ·rintro⟨⟨⟨⟨h1,h2⟩,h3⟩,h4⟩,h5⟩;cases a;cases b;simp_all
 ·rintro rfl;exact⟨⟨⟨⟨rfl,rfl⟩,rfl⟩,rfl⟩,rfl⟩
theorem Fy (r:Am) (sv rv ov uv:Value) (S:Nat→Prop) (w:World) (h:Ax S w r sv rv ov uv):
  Calls Tryz.prog 46 #[AO r sv rv ov uv] w fun e w'=>e=.returned (.int .i64 (Ak r))∧Below w.heap.size w w':=by
 have HR:=zh (show Ak r=if Ap r.refs r.store≠0 then Ap r.refs r.store else if within r.gen 0 999=false then 3 else if within r.phase 0 2=false then 7 else if r.phase≠0 then As r.pend else if BR r.pend=true then 0 else 1 from rfl);have H:=zh h;obtain⟨sa,sc,rfl⟩:=h.store.vshape;obtain⟨⟨ra,rc⟩,rfl⟩:=h.refs.shape;obtain⟨oa,oc,rfl⟩:=h.objs.vshape;obtain⟨⟨ua,uc⟩,rfl⟩:=h.upds.shape;clear h;simp only[AO];obtain⟨Q,hQ,hQ1,hy⟩:=BO w #[.slice sa r.store.length sc,.slice ra r.refs.length rc,.int .i64 r.gen,.int .i64 r.phase,.slice oa r.pend.objects.length oc,.slice ua r.pend.updates.length uc,.bool r.pend.force] 34;have y0:=hy 0 _ rfl;have y1:=hy 1 _ rfl;have y2:=hy 2 _ rfl;have y3:=hy 3 _ rfl;have y4:=hy 4 _ rfl;have y5:=hy 5 _ rfl;have y6:=hy 6 _ rfl;have hQb:=hQ.below;have hQn:=hQ.next
 have HC:=zh (fun x (hx:In Q x)=>Pk r.refs r.store _ _ _ _ x (H.out.refs.below (hQb _ hx)) (H.out.store.below (hQb _ hx)));have HP:=zh (fun x (hx:In Q x)=>Gx r.pend _ _ _ _ x (H.out.objs.below (hQb _ hx)) (H.out.upds.below (hQb _ hx)));clear hy;have y01:=y0 _ hQ1;have y11:=y1 _ hQ1;by_cases e1:Ap r.refs r.store=0
 case neg=>
  have HF:=zh (show Ak r=Ap r.refs r.store by rw[HR.out,if_pos e1]);have hq:(Ap r.refs r.store !=0)=true:=by simpa using e1
  clear e1 HR;generalize Ap r.refs r.store=c at*
  go_enter Tryz.func46, Tryz.ntmps46
  go_wp2_with fail;refine(HC.out _ hQ1).mono ?_;rintro e w1 ⟨rfl,hb1⟩;have hQ2:=hQn _ _ hQ1 hb1;clear hb1 y01 y11 hQ1;go_wp2_with fail;go_ret;exact⟨Af HF.out.symm,hQb _ hQ2⟩
 rw[if_neg (by simpa using e1)] at HR;rw[e1] at HC;clear e1;by_cases egenlo:r.gen<0
 case pos=>
  have HF:=zh (show Ak r=3 by rw[HR.out,if_pos (by unfold within;simp;omega)]);have hd:decide (r.gen<0)=true:=decide_eq_true egenlo;clear HR
  go_enter Tryz.func46, Tryz.ntmps46
  go_wp2_with fail;refine(HC.out _ hQ1).mono ?_;rintro e w1 ⟨rfl,hb1⟩;have hQ2:=hQn _ _ hQ1 hb1;have y22:=y2 _ hQ2;have y32:=y3 _ hQ2;have y42:=y4 _ hQ2;have y52:=y5 _ hQ2;have y62:=y6 _ hQ2;clear hb1 y01 y11 hQ1;go_wp2_with fail;go_ret;exact⟨Af HF.out.symm,hQb _ hQ2⟩
 by_cases egenhi:999<r.gen
 case pos=>
  have HF:=zh (show Ak r=3 by rw[HR.out,if_pos (by unfold within;simp;omega)]);have hd:decide (r.gen<0)=false:=decide_eq_false egenlo;have hd2:decide (999<r.gen)=true:=decide_eq_true egenhi;clear HR
  go_enter Tryz.func46, Tryz.ntmps46
  go_wp2_with fail;refine(HC.out _ hQ1).mono ?_;rintro e w1 ⟨rfl,hb1⟩;have hQ2:=hQn _ _ hQ1 hb1;have y22:=y2 _ hQ2;have y32:=y3 _ hQ2;have y42:=y4 _ hQ2;have y52:=y5 _ hQ2;have y62:=y6 _ hQ2;clear hb1 y01 y11 hQ1;go_wp2_with fail;go_ret;exact⟨Af HF.out.symm,hQb _ hQ2⟩
 rw[if_neg (by unfold within;simp;omega)] at HR;have hg1:decide (r.gen<0)=false:=decide_eq_false egenlo;have hg2:decide (999<r.gen)=false:=decide_eq_false egenhi;by_cases ephaselo:r.phase<0
 case pos=>
  have HF:=zh (show Ak r=7 by rw[HR.out,if_pos (by unfold within;simp;omega)]);have hd:decide (r.phase<0)=true:=decide_eq_true ephaselo;clear HR
  go_enter Tryz.func46, Tryz.ntmps46
  go_wp2_with fail;refine(HC.out _ hQ1).mono ?_;rintro e w1 ⟨rfl,hb1⟩;have hQ2:=hQn _ _ hQ1 hb1;have y22:=y2 _ hQ2;have y32:=y3 _ hQ2;have y42:=y4 _ hQ2;have y52:=y5 _ hQ2;have y62:=y6 _ hQ2;clear hb1 y01 y11 hQ1;go_wp2_with fail;go_ret;exact⟨Af HF.out.symm,hQb _ hQ2⟩
 by_cases ephasehi:2<r.phase
 case pos=>
  have HF:=zh (show Ak r=7 by rw[HR.out,if_pos (by unfold within;simp;omega)]);have hd:decide (r.phase<0)=false:=decide_eq_false ephaselo;have hd2:decide (2<r.phase)=true:=decide_eq_true ephasehi;clear HR
  go_enter Tryz.func46, Tryz.ntmps46
  go_wp2_with fail;refine(HC.out _ hQ1).mono ?_;rintro e w1 ⟨rfl,hb1⟩;have hQ2:=hQn _ _ hQ1 hb1;have y22:=y2 _ hQ2;have y32:=y3 _ hQ2;have y42:=y4 _ hQ2;have y52:=y5 _ hQ2;have y62:=y6 _ hQ2;clear hb1 y01 y11 hQ1;go_wp2_with fail;go_ret;exact⟨Af HF.out.symm,hQb _ hQ2⟩
 rw[if_neg (by unfold within;simp;omega)] at HR;have hp1:decide (r.phase<0)=false:=decide_eq_false ephaselo;have hp2:decide (2<r.phase)=false:=decide_eq_false ephasehi;by_cases e3:r.phase=0
 case neg=>
  have HF:=zh (show Ak r=As r.pend by rw[HR.out,if_pos e3]);have hq:(r.phase !=0)=true:=by simpa using e3
  have hd:decide (0<r.phase)=true:=decide_eq_true (by omega);clear HR e3
  go_enter Tryz.func46, Tryz.ntmps46
  go_wp2_with fail;refine(HC.out _ hQ1).mono ?_;rintro e w1 ⟨rfl,hb1⟩;have hQ2:=hQn _ _ hQ1 hb1;have y22:=y2 _ hQ2;have y32:=y3 _ hQ2;have y42:=y4 _ hQ2;have y52:=y5 _ hQ2;have y62:=y6 _ hQ2;clear hb1 y01 y11 hQ1;go_wp2_with fail;refine(HP.out _ hQ2).mono ?_;rintro e w3 ⟨rfl,hb3⟩;have hQ3:=hQn _ _ hQ2 hb3;go_wp2_with fail;go_ret;exact⟨Af HF.out.symm,hQb _ hQ3⟩
 rw[if_neg (by simpa using e3)] at HR;have hq:(r.phase !=0)=false:=by simpa using e3
 have hd:decide (0<r.phase)=false:=decide_eq_false (by omega);clear e3 HP;generalize hnp:r.pend.objects.length=np at*;generalize hnu:r.pend.updates.length=nu at*;by_cases f1:np=0
 case neg=>
  have HF:=zh (show Ak r=1 by rw[HR.out,if_neg (by unfold BR;rw[hnp,hnu];simp;omega)]);clear HR
  go_enter Tryz.func46, Tryz.ntmps46
  go_wp2_with fail;refine(HC.out _ hQ1).mono ?_;rintro e w1 ⟨rfl,hb1⟩;have hQ2:=hQn _ _ hQ1 hb1;have y22:=y2 _ hQ2;have y32:=y3 _ hQ2;have y42:=y4 _ hQ2;have y52:=y5 _ hQ2;have y62:=y6 _ hQ2;clear hb1 y01 y11 hQ1;go_wp2_with fail;go_ret;exact⟨Af HF.out.symm,hQb _ hQ2⟩
 subst f1;by_cases f2:nu=0
 case neg=>
  have HF:=zh (show Ak r=1 by rw[HR.out,if_neg (by unfold BR;rw[hnp,hnu];simp;omega)]);clear HR
  go_enter Tryz.func46, Tryz.ntmps46
  go_wp2_with fail;refine(HC.out _ hQ1).mono ?_;rintro e w1 ⟨rfl,hb1⟩;have hQ2:=hQn _ _ hQ1 hb1;have y22:=y2 _ hQ2;have y32:=y3 _ hQ2;have y42:=y4 _ hQ2;have y52:=y5 _ hQ2;have y62:=y6 _ hQ2;clear hb1 y01 y11 hQ1;go_wp2_with fail;go_ret;exact⟨Af HF.out.symm,hQb _ hQ2⟩
 subst f2;cases f3:r.pend.force
 ·have HF:=zh (show Ak r=0 by rw[HR.out];unfold BR;rw[hnp,hnu,f3];simp)
  rw[f3] at y6 hQ1 y01 y11;clear HR
  go_enter Tryz.func46, Tryz.ntmps46
  go_wp2_with fail;refine(HC.out _ hQ1).mono ?_;rintro e w1 ⟨rfl,hb1⟩;have hQ2:=hQn _ _ hQ1 hb1;have y22:=y2 _ hQ2;have y32:=y3 _ hQ2;have y42:=y4 _ hQ2;have y52:=y5 _ hQ2;have y62:=y6 _ hQ2;clear hb1 y01 y11 hQ1;go_wp2_with fail;go_ret;exact⟨Af HF.out.symm,hQb _ hQ2⟩
 ·have HF:=zh (show Ak r=1 by rw[HR.out];unfold BR;rw[hnp,hnu,f3];simp)
  rw[f3] at y6 hQ1 y01 y11;clear HR
  go_enter Tryz.func46, Tryz.ntmps46
  go_wp2_with fail;refine(HC.out _ hQ1).mono ?_;rintro e w1 ⟨rfl,hb1⟩;have hQ2:=hQn _ _ hQ1 hb1;have y22:=y2 _ hQ2;have y32:=y3 _ hQ2;have y42:=y4 _ hQ2;have y52:=y5 _ hQ2;have y62:=y6 _ hQ2;clear hb1 y01 y11 hQ1;go_wp2_with fail;go_ret;exact⟨Af HF.out.symm,hQb _ hQ2⟩
theorem FA (p q:BM) (ov uv ov2 uv2:Value) (S S':Nat→Prop) (w:World) (ho:Ai S w ov p.objects) (hu:AJ S w uv p.updates) (ho2:Ai S' w ov2 q.objects) (hu2:AJ S' w uv2 q.updates):
  Calls Tryz.prog 16 #[Dn p ov uv,Dn q ov2 uv2] w fun e w'=>e=.returned (.bool (Fz p q))∧Below w.heap.size w w':=by
 have HD:=zh (show Fz p q=(BZ p.objects q.objects && DS p.updates q.updates && (p.force==q.force)) from rfl);have Ho:=zh ho;have Hu:=zh hu;have Ho2:=zh ho2;have Hu2:=zh hu2;obtain⟨oa,oc,rfl⟩:=ho.vshape;obtain⟨⟨ua,uc⟩,rfl⟩:=hu.shape;obtain⟨oa2,oc2,rfl⟩:=ho2.vshape;obtain⟨⟨ua2,uc2⟩,rfl⟩:=hu2.shape;clear ho hu ho2 hu2;simp only[Dn];obtain⟨Q,hQ,hQ1,hy,hz⟩:=JD w #[.slice oa p.objects.length oc,.slice ua p.updates.length uc,.bool p.force] #[.slice oa2 q.objects.length oc2,.slice ua2 q.updates.length uc2,.bool q.force] 28 28;have hQb:=hQ.below;have hQn:=hQ.next
 have H1:=zh (fun x (hx:In Q x)=>Kh p.objects q.objects _ _ _ _ x (Ho.out.below (hQb _ hx)) (Ho2.out.below (hQb _ hx)));have H2:=zh (fun x (hx:In Q x)=>MV p.updates q.updates _ _ _ _ x (Hu.out.below (hQb _ hx)) (Hu2.out.below (hQb _ hx)));have y0:=hy 0 _ rfl _ hQ1;have z0:=hz 0 _ rfl _ hQ1;have y1:=hy 1 _ rfl;have z1:=hz 1 _ rfl;have y2:=hy 2 _ rfl;have z2:=hz 2 _ rfl;clear hy hz;cases s1:BZ p.objects q.objects
 ·rw[s1] at H1 HD
  go_enter Tryz.func16, Tryz.ntmps16
  go_wp2_with fail;refine(H1.out _ hQ1).mono ?_;rintro e w1 ⟨rfl,hb1⟩;have hQ2:=hQn _ _ hQ1 hb1;go_wp2_with fail;go_ret;exact⟨by rw[HD.out];rfl,hQb _ hQ2⟩
 ·rw[s1] at H1 HD
  cases s2:DS p.updates q.updates
  ·rw[s2] at H2 HD
   go_enter Tryz.func16, Tryz.ntmps16
   go_wp2_with fail;refine(H1.out _ hQ1).mono ?_;rintro e w1 ⟨rfl,hb1⟩;have hQ2:=hQn _ _ hQ1 hb1;have y12:=y1 _ hQ2;have z12:=z1 _ hQ2;go_wp2_with fail;refine(H2.out _ hQ2).mono ?_;rintro e w2 ⟨rfl,hb2⟩;have hQ3:=hQn _ _ hQ2 hb2;go_wp2_with fail;go_ret;exact⟨by rw[HD.out];rfl,hQb _ hQ3⟩
  ·rw[s2] at H2 HD
   go_enter Tryz.func16, Tryz.ntmps16
   go_wp2_with fail;refine(H1.out _ hQ1).mono ?_;rintro e w1 ⟨rfl,hb1⟩;have hQ2:=hQn _ _ hQ1 hb1;have y12:=y1 _ hQ2;have z12:=z1 _ hQ2;go_wp2_with fail;refine(H2.out _ hQ2).mono ?_;rintro e w2 ⟨rfl,hb2⟩;have hQ3:=hQn _ _ hQ2 hb2;have y23:=y2 _ hQ3;have z23:=z2 _ hQ3;go_wp2_with fail;go_ret;exact⟨by rw[HD.out];rfl,hQb _ hQ3⟩
theorem LN (r:Am) (sv rv ov uv:Value) (S:Nat→Prop) (w:World) (h:Ax S w r sv rv ov uv):
  Calls Tryz.prog 31 #[AO r sv rv ov uv] w fun e w'=>e=.returned (.int .i64 (Ak r))∧Below w.heap.size w w':=by
 have HR:=zh (show Ak r=if Ap r.refs r.store≠0 then Ap r.refs r.store else if within r.gen 0 999=false then 3 else if within r.phase 0 2=false then 7 else if r.phase≠0 then As r.pend else if BR r.pend=true then 0 else 1 from rfl);have H:=zh h;obtain⟨sa,sc,rfl⟩:=h.store.vshape;obtain⟨⟨ra,rc⟩,rfl⟩:=h.refs.shape;obtain⟨oa,oc,rfl⟩:=h.objs.vshape;obtain⟨⟨ua,uc⟩,rfl⟩:=h.upds.shape;clear h;simp only[AO];obtain⟨Q,hQ,hQ1,hy⟩:=BO w #[.slice sa r.store.length sc,.slice ra r.refs.length rc,.int .i64 r.gen,.int .i64 r.phase,.slice oa r.pend.objects.length oc,.slice ua r.pend.updates.length uc,.bool r.pend.force] 34;have y0:=hy 0 _ rfl;have y1:=hy 1 _ rfl;have y2:=hy 2 _ rfl;have y3:=hy 3 _ rfl;have y4:=hy 4 _ rfl;have y5:=hy 5 _ rfl;have y6:=hy 6 _ rfl;have hQb:=hQ.below;have hQn:=hQ.next
 have HC:=zh (fun x (hx:In Q x)=>JV r.refs r.store _ _ _ _ x (H.out.refs.below (hQb _ hx)) (H.out.store.below (hQb _ hx)));have HP:=zh (fun x (hx:In Q x)=>JU r.pend _ _ _ _ x (H.out.objs.below (hQb _ hx)) (H.out.upds.below (hQb _ hx)));clear hy;have y01:=y0 _ hQ1;have y11:=y1 _ hQ1;by_cases e1:Ap r.refs r.store=0
 case neg=>
  have HF:=zh (show Ak r=Ap r.refs r.store by rw[HR.out,if_pos e1]);have hq:(Ap r.refs r.store !=0)=true:=by simpa using e1
  clear e1 HR;generalize Ap r.refs r.store=c at*
  go_enter Tryz.func31, Tryz.ntmps31
  go_wp2_with fail;refine(HC.out _ hQ1).mono ?_;rintro e w1 ⟨rfl,hb1⟩;have hQ2:=hQn _ _ hQ1 hb1;clear hb1 y01 y11 hQ1;go_wp2_with fail;go_ret;exact⟨Af HF.out.symm,hQb _ hQ2⟩
 rw[if_neg (by simpa using e1)] at HR;rw[e1] at HC;clear e1;by_cases egenlo:r.gen<0
 case pos=>
  have HF:=zh (show Ak r=3 by rw[HR.out,if_pos (by unfold within;simp;omega)]);have hb:within r.gen 0 999=false:=by unfold within;simp;omega
  clear HR
  go_enter Tryz.func31, Tryz.ntmps31
  go_wp2_with fail;refine(HC.out _ hQ1).mono ?_;rintro e w1 ⟨rfl,hb1⟩;have hQ2:=hQn _ _ hQ1 hb1;have y22:=y2 _ hQ2;have y32:=y3 _ hQ2;have y42:=y4 _ hQ2;have y52:=y5 _ hQ2;have y62:=y6 _ hQ2;clear hb1 y01 y11 hQ1;go_wp2_with fail;refine(Ao _ _ _ _).mono ?_;rintro e w9 ⟨rfl,rfl⟩;rw[hb];go_wp2_with fail;go_ret;exact⟨Af HF.out.symm,hQb _ hQ2⟩
 by_cases egenhi:999<r.gen
 case pos=>
  have HF:=zh (show Ak r=3 by rw[HR.out,if_pos (by unfold within;simp;omega)]);have hb:within r.gen 0 999=false:=by unfold within;simp;omega
  clear HR
  go_enter Tryz.func31, Tryz.ntmps31
  go_wp2_with fail;refine(HC.out _ hQ1).mono ?_;rintro e w1 ⟨rfl,hb1⟩;have hQ2:=hQn _ _ hQ1 hb1;have y22:=y2 _ hQ2;have y32:=y3 _ hQ2;have y42:=y4 _ hQ2;have y52:=y5 _ hQ2;have y62:=y6 _ hQ2;clear hb1 y01 y11 hQ1;go_wp2_with fail;refine(Ao _ _ _ _).mono ?_;rintro e w9 ⟨rfl,rfl⟩;rw[hb];go_wp2_with fail;go_ret;exact⟨Af HF.out.symm,hQb _ hQ2⟩
 rw[if_neg (by unfold within;simp;omega)] at HR;have hg1:decide (r.gen<0)=false:=decide_eq_false egenlo;have hg2:decide (999<r.gen)=false:=decide_eq_false egenhi;have hbg:within r.gen 0 999=true:=by unfold within;simp;omega
 by_cases ephaselo:r.phase<0
 case pos=>
  have HF:=zh (show Ak r=7 by rw[HR.out,if_pos (by unfold within;simp;omega)]);have hb:within r.phase 0 2=false:=by unfold within;simp;omega
  clear HR
  go_enter Tryz.func31, Tryz.ntmps31
  go_wp2_with fail;refine(HC.out _ hQ1).mono ?_;rintro e w1 ⟨rfl,hb1⟩;have hQ2:=hQn _ _ hQ1 hb1;have y22:=y2 _ hQ2;have y32:=y3 _ hQ2;have y42:=y4 _ hQ2;have y52:=y5 _ hQ2;have y62:=y6 _ hQ2;clear hb1 y01 y11 hQ1;go_wp2_with fail;refine(Ao _ _ _ _).mono ?_;rintro e w9 ⟨rfl,rfl⟩;rw[hbg];go_wp2_with fail;refine(Ao _ _ _ _).mono ?_;rintro e w9 ⟨rfl,rfl⟩;rw[hb];go_wp2_with fail;go_ret;exact⟨Af HF.out.symm,hQb _ hQ2⟩
 by_cases ephasehi:2<r.phase
 case pos=>
  have HF:=zh (show Ak r=7 by rw[HR.out,if_pos (by unfold within;simp;omega)]);have hb:within r.phase 0 2=false:=by unfold within;simp;omega
  clear HR
  go_enter Tryz.func31, Tryz.ntmps31
  go_wp2_with fail;refine(HC.out _ hQ1).mono ?_;rintro e w1 ⟨rfl,hb1⟩;have hQ2:=hQn _ _ hQ1 hb1;have y22:=y2 _ hQ2;have y32:=y3 _ hQ2;have y42:=y4 _ hQ2;have y52:=y5 _ hQ2;have y62:=y6 _ hQ2;clear hb1 y01 y11 hQ1;go_wp2_with fail;refine(Ao _ _ _ _).mono ?_;rintro e w9 ⟨rfl,rfl⟩;rw[hbg];go_wp2_with fail;refine(Ao _ _ _ _).mono ?_;rintro e w9 ⟨rfl,rfl⟩;rw[hb];go_wp2_with fail;go_ret;exact⟨Af HF.out.symm,hQb _ hQ2⟩
 rw[if_neg (by unfold within;simp;omega)] at HR;have hp1:decide (r.phase<0)=false:=decide_eq_false ephaselo;have hp2:decide (2<r.phase)=false:=decide_eq_false ephasehi;have hbp:within r.phase 0 2=true:=by unfold within;simp;omega
 by_cases e3:r.phase=0
 case neg=>
  have HF:=zh (show Ak r=As r.pend by rw[HR.out,if_pos e3]);have hq:(r.phase !=0)=true:=by simpa using e3
  have hd:decide (0<r.phase)=true:=decide_eq_true (by omega);clear HR e3
  go_enter Tryz.func31, Tryz.ntmps31
  go_wp2_with fail;refine(HC.out _ hQ1).mono ?_;rintro e w1 ⟨rfl,hb1⟩;have hQ2:=hQn _ _ hQ1 hb1;have y22:=y2 _ hQ2;have y32:=y3 _ hQ2;have y42:=y4 _ hQ2;have y52:=y5 _ hQ2;have y62:=y6 _ hQ2;clear hb1 y01 y11 hQ1;go_wp2_with fail;refine(Ao _ _ _ _).mono ?_;rintro e w9 ⟨rfl,rfl⟩;rw[hbg];go_wp2_with fail;refine(Ao _ _ _ _).mono ?_;rintro e w9 ⟨rfl,rfl⟩;rw[hbp];go_wp2_with fail;refine(HP.out _ hQ2).mono ?_;rintro e w3 ⟨rfl,hb3⟩;have hQ3:=hQn _ _ hQ2 hb3;go_wp2_with fail;go_ret;exact⟨Af HF.out.symm,hQb _ hQ3⟩
 rw[if_neg (by simpa using e3)] at HR;have hq:(r.phase !=0)=false:=by simpa using e3
 have hd:decide (0<r.phase)=false:=decide_eq_false (by omega);clear e3 HP;have HS:=zh (fun x (hx:In Q x)=>FA r.pend CU _ _ (.slice none 0 0) (.slice none 0 0) S (fun _=>True) x (H.out.objs.below (hQb _ hx)) (H.out.upds.below (hQb _ hx)) (Ai.nil _ _ _ _ (by omega)) (AJ.nil _ _ _ _ (by omega)));simp only[Lp,Dn] at HS;cases he:BR r.pend
 ·rw[he] at HS HR
  have HF:=zh (show Ak r=1 by rw[HR.out];simp);clear HR he
  go_enter Tryz.func31, Tryz.ntmps31
  go_wp2_with fail;refine(HC.out _ hQ1).mono ?_;rintro e w1 ⟨rfl,hb1⟩;have hQ2:=hQn _ _ hQ1 hb1;have y22:=y2 _ hQ2;have y32:=y3 _ hQ2;have y42:=y4 _ hQ2;have y52:=y5 _ hQ2;have y62:=y6 _ hQ2;clear hb1 y01 y11 hQ1;go_wp2_with fail;refine(Ao _ _ _ _).mono ?_;rintro e w9 ⟨rfl,rfl⟩;rw[hbg];go_wp2_with fail;refine(Ao _ _ _ _).mono ?_;rintro e w9 ⟨rfl,rfl⟩;rw[hbp];go_wp2_with fail;refine(HS.out _ hQ2).mono ?_;rintro e w3 ⟨rfl,hb3⟩;have hQ3:=hQn _ _ hQ2 hb3;go_wp2_with fail;go_ret;exact⟨Af HF.out.symm,hQb _ hQ3⟩
 ·rw[he] at HS HR
  have HF:=zh (show Ak r=0 by rw[HR.out];simp);clear HR he
  go_enter Tryz.func31, Tryz.ntmps31
  go_wp2_with fail;refine(HC.out _ hQ1).mono ?_;rintro e w1 ⟨rfl,hb1⟩;have hQ2:=hQn _ _ hQ1 hb1;have y22:=y2 _ hQ2;have y32:=y3 _ hQ2;have y42:=y4 _ hQ2;have y52:=y5 _ hQ2;have y62:=y6 _ hQ2;clear hb1 y01 y11 hQ1;go_wp2_with fail;refine(Ao _ _ _ _).mono ?_;rintro e w9 ⟨rfl,rfl⟩;rw[hbg];go_wp2_with fail;refine(Ao _ _ _ _).mono ?_;rintro e w9 ⟨rfl,rfl⟩;rw[hbp];go_wp2_with fail;refine(HS.out _ hQ2).mono ?_;rintro e w3 ⟨rfl,hb3⟩;have hQ3:=hQn _ _ hQ2 hb3;go_wp2_with fail;go_ret;exact⟨Af HF.out.symm,hQb _ hQ3⟩
theorem Fo (p q:Am) (sv rv ov uv sv2 rv2 ov2 uv2:Value) (S S':Nat→Prop) (w:World) (h:Ax S w p sv rv ov uv) (h2:Ax S' w q sv2 rv2 ov2 uv2):
  Calls Tryz.prog 29 #[AO p sv rv ov uv,AO q sv2 rv2 ov2 uv2] w fun e w'=>e=.returned (.bool (Eh p q))∧Below w.heap.size w w':=by
 have HD:=zh (show Eh p q=(BZ p.store q.store && BF p.refs q.refs && (p.gen==q.gen) && (p.phase==q.phase) && Fz p.pend q.pend) from rfl);have H:=zh h;have G:=zh h2;obtain⟨sa,sc,rfl⟩:=h.store.vshape;obtain⟨⟨ra,rc⟩,rfl⟩:=h.refs.shape;obtain⟨oa,oc,rfl⟩:=h.objs.vshape;obtain⟨⟨ua,uc⟩,rfl⟩:=h.upds.shape;obtain⟨KF,MH,rfl⟩:=h2.store.vshape;obtain⟨⟨ra2,rc2⟩,rfl⟩:=h2.refs.shape;obtain⟨oa2,oc2,rfl⟩:=h2.objs.vshape;obtain⟨⟨ua2,uc2⟩,rfl⟩:=h2.upds.shape;clear h h2;simp only[AO];obtain⟨Q,hQ,hQ1,hy,hz⟩:=JD w #[.slice sa p.store.length sc,.slice ra p.refs.length rc,.int .i64 p.gen,.int .i64 p.phase,.slice oa p.pend.objects.length oc,.slice ua p.pend.updates.length uc,.bool p.pend.force]
  #[.slice KF q.store.length MH,.slice ra2 q.refs.length rc2,.int .i64 q.gen,.int .i64 q.phase,.slice oa2 q.pend.objects.length oc2,.slice ua2 q.pend.updates.length uc2,.bool q.pend.force] 34 34
 have hQb:=hQ.below;have hQn:=hQ.next
 have H1:=zh (fun x (hx:In Q x)=>Kh p.store q.store _ _ _ _ x (H.out.store.below (hQb _ hx)) (G.out.store.below (hQb _ hx)));have H2:=zh (fun x (hx:In Q x)=>Lr p.refs q.refs _ _ _ _ x (H.out.refs.below (hQb _ hx)) (G.out.refs.below (hQb _ hx)));have H3:=zh (fun x (hx:In Q x)=>FA p.pend q.pend _ _ _ _ _ _ x (H.out.objs.below (hQb _ hx)) (H.out.upds.below (hQb _ hx)) (G.out.objs.below (hQb _ hx)) (G.out.upds.below (hQb _ hx)));simp only[Dn] at H3;have y0:=hy 0 _ rfl _ hQ1;have z0:=hz 0 _ rfl _ hQ1;have y1:=hy 1 _ rfl;have z1:=hz 1 _ rfl;have y2:=hy 2 _ rfl;have z2:=hz 2 _ rfl;have y3:=hy 3 _ rfl;have z3:=hz 3 _ rfl;have y4:=hy 4 _ rfl;have z4:=hz 4 _ rfl;have y5:=hy 5 _ rfl;have z5:=hz 5 _ rfl;have y6:=hy 6 _ rfl;have z6:=hz 6 _ rfl;clear hy hz;cases s1:BZ p.store q.store
 ·rw[s1] at H1 HD
  go_enter Tryz.func29, Tryz.ntmps29
  go_wp2_with fail;refine(H1.out _ hQ1).mono ?_;rintro e w1 ⟨rfl,hbw1⟩;have hQ2:=hQn _ _ hQ1 hbw1;go_wp2_with fail;go_ret;exact⟨by rw[HD.out];rfl,hQb _ hQ2⟩
 ·rw[s1] at H1 HD
  cases s2:BF p.refs q.refs
  ·rw[s2] at H2 HD
   go_enter Tryz.func29, Tryz.ntmps29
   go_wp2_with fail;refine(H1.out _ hQ1).mono ?_;rintro e w1 ⟨rfl,hbw1⟩;have hQ2:=hQn _ _ hQ1 hbw1;have y1zhQ2:=y1 _ hQ2;have z1zhQ2:=z1 _ hQ2;go_wp2_with fail;refine(H2.out _ hQ2).mono ?_;rintro e w2 ⟨rfl,hbw2⟩;have hQ3:=hQn _ _ hQ2 hbw2;go_wp2_with fail;go_ret;exact⟨by rw[HD.out];rfl,hQb _ hQ3⟩
  ·rw[s2] at H2 HD
   cases s3:(p.gen==q.gen)
   ·rw[s3] at HD
    go_enter Tryz.func29, Tryz.ntmps29
    go_wp2_with fail;refine(H1.out _ hQ1).mono ?_;rintro e w1 ⟨rfl,hbw1⟩;have hQ2:=hQn _ _ hQ1 hbw1;have y1zhQ2:=y1 _ hQ2;have z1zhQ2:=z1 _ hQ2;go_wp2_with fail;refine(H2.out _ hQ2).mono ?_;rintro e w2 ⟨rfl,hbw2⟩;have hQ3:=hQn _ _ hQ2 hbw2;have y2zhQ3:=y2 _ hQ3;have z2zhQ3:=z2 _ hQ3;go_wp2_with fail;go_ret;exact⟨by rw[HD.out];rfl,hQb _ hQ3⟩
   ·rw[s3] at HD
    cases s4:(p.phase==q.phase)
    ·rw[s4] at HD
     go_enter Tryz.func29, Tryz.ntmps29
     go_wp2_with fail;refine(H1.out _ hQ1).mono ?_;rintro e w1 ⟨rfl,hbw1⟩;have hQ2:=hQn _ _ hQ1 hbw1;have y1zhQ2:=y1 _ hQ2;have z1zhQ2:=z1 _ hQ2;go_wp2_with fail;refine(H2.out _ hQ2).mono ?_;rintro e w2 ⟨rfl,hbw2⟩;have hQ3:=hQn _ _ hQ2 hbw2;have y2zhQ3:=y2 _ hQ3;have z2zhQ3:=z2 _ hQ3;have y3zhQ3:=y3 _ hQ3;have z3zhQ3:=z3 _ hQ3;go_wp2_with fail;go_ret;exact⟨by rw[HD.out];rfl,hQb _ hQ3⟩
    ·rw[s4] at HD
     go_enter Tryz.func29, Tryz.ntmps29
     go_wp2_with fail;refine(H1.out _ hQ1).mono ?_;rintro e w1 ⟨rfl,hbw1⟩;have hQ2:=hQn _ _ hQ1 hbw1;have y1zhQ2:=y1 _ hQ2;have z1zhQ2:=z1 _ hQ2;go_wp2_with fail;refine(H2.out _ hQ2).mono ?_;rintro e w2 ⟨rfl,hbw2⟩;have hQ3:=hQn _ _ hQ2 hbw2;have y2zhQ3:=y2 _ hQ3;have z2zhQ3:=z2 _ hQ3;have y3zhQ3:=y3 _ hQ3;have z3zhQ3:=z3 _ hQ3;have y4zhQ3:=y4 _ hQ3;have z4zhQ3:=z4 _ hQ3;have y5zhQ3:=y5 _ hQ3;have z5zhQ3:=z5 _ hQ3;have y6zhQ3:=y6 _ hQ3;have z6zhQ3:=z6 _ hQ3;go_wp2_with fail;refine(H3.out _ hQ3).mono ?_;rintro e w3 ⟨rfl,hbw3⟩;have hQ4:=hQn _ _ hQ3 hbw3;go_wp2_with fail;go_ret;exact⟨by rw[HD.out];rfl,hQb _ hQ4⟩
variable [Ghost]
theorem AB.bytes {S:Nat→Prop} {w:World} {v:Value} {l:List Rf} (h:AB S w v l):l.length*24≤140737488351232:=
 let⟨⟨_,_,_,_,_,h3,_⟩,_⟩:=h;h3
def Um (w w':World) (e:Ending) (r:Am) (c:Int):Prop:=∃sv rv ov uv,e=.returned (.tuple #[AO r sv rv ov uv,.int .i64 c])∧Ax (fun _=>True) w' r sv rv ov uv∧Below w.heap.size w w'
def Fu (w w':World) (e:Ending) (r:Am) (c:Int):Prop:=∃sv rv ov uv,e=.returned (.tuple #[AO r sv rv ov uv,.int .i64 c])∧Ax (fun b=>w.heap.size≤b) w' r sv rv ov uv∧Below w.heap.size w w'
theorem Fu.e {w w':World} {e:Ending} {r:Am} {c:Int} (h:Fu w w' e r c):Um w w' e r c:=let⟨_,_,_,_,h1,h2,h3⟩:=h;⟨_,_,_,_,h1,h2.weaken fun _ _=>trivial,h3⟩
def Qd (A:Nat→Prop) (w w':World) (e:Ending) (r:Am) (c:Int):Prop:=∃sv rv ov uv,e=.returned (.tuple #[AO r sv rv ov uv,.int .i64 c])∧Ax (fun b=>A b∨w.heap.size≤b) w' r sv rv ov uv∧Below w.heap.size w w'
theorem Qd.e {A:Nat→Prop} {w w':World} {e:Ending} {r:Am} {c:Int} (h:Qd A w w' e r c):Um w w' e r c:=let⟨_,_,_,_,h1,h2,h3⟩:=h;⟨_,_,_,_,h1,h2.weaken fun _ _=>trivial,h3⟩
theorem Dz (S:Nat→Prop) (w:World):Ax S w BE (.slice none 0 0) (.slice none 0 0) (.slice none 0 0) (.slice none 0 0):=
 ⟨Ai.nil _ _ _ _ (by omega),AB.nil _ _ _ _ (by omega),Ai.nil _ _ _ _ (by omega),AJ.nil _ _ _ _ (by omega),by unfold Dy;decide,by unfold Dy;decide⟩
def Ft:Array Value:=#[.slice none 0 0,.slice none 0 0,.int .i64 0,.int .i64 0,.slice none 0 0,.slice none 0 0,.bool false]
theorem Fd:∀(os:List Go.Obj) (w:World),Below w.heap.size w (os.foldl World.alloc w)
 |[],w=>Below.refl _ _
 |o::os,w=>Below.trans ((Below.refl w.heap.size w).alloc (Nat.le_refl _) o) ((Fd os (w.alloc o)).mono (by simp))
theorem NH:∀(os:List Go.Obj) (w:World),(os.foldl World.alloc w).heap.size=w.heap.size+os.length
 |[],w=>rfl
 |o::os,w=>by rw[List.foldl_cons,NH os];simp;omega
theorem EM:∀(os:List Go.Obj) (w:World) (j:Nat) (o:Go.Obj),os[j]?=some o→(os.foldl World.alloc w).heap[w.heap.size+j]?=some o
 |[],w,j,o,h=>by simp at h
 |o'::os,w,0,o,h=>by
  obtain rfl:o'=o:=by simpa using h
  rw[List.foldl_cons,(Fd os (w.alloc o')).block _ (by simp)];exact heap_alloc_new w o'
 |o'::os,w,j+1,o,h=>by
  have:=EM os (w.alloc o') j o (by simpa using h);rw[List.foldl_cons,show w.heap.size+(j+1)=(w.alloc o').heap.size+j by simp;omega];exact this
theorem AF (w:World) (os:List Go.Obj):∃R:World→Prop,SL w R∧In R (os.foldl World.alloc w)∧∀x,In R x→∀j o,os[j]?=some o→x.heap[w.heap.size+j]?=some o:=by
 refine⟨_,Ib w (os.foldl World.alloc w) (w.heap.size+os.length) (by omega) (by rw[NH];exact Nat.le_refl _) (Fd os w),Below.refl _ _,fun x hx j o hj=>?_⟩;have hlt:=(List.getElem?_eq_some_iff.1 hj).1;rw[Below.block hx _ (by omega)];exact EM os w j o hj
theorem Ax.lt {S:Nat→Prop} {w:World} {r:Am} {sv rv ov uv:Value} (h:Ax S w r sv rv ov uv):Ax (fun b=>S b∧b<w.heap.size) w r sv rv ov uv:=
 ⟨h.store.lt,h.refs.lt,h.objs.lt,h.upds.lt,h.gen,h.phase⟩
theorem Ax.upd {S T:Nat→Prop} {w w':World} {r:Am} {sv rv ov uv:Value} (h:Ax S w r sv rv ov uv) (hu:AK T w w') (hT:∀b,S b→¬T b):Ax S w' r sv rv ov uv:=
 ⟨h.store.upd' hu hT,h.refs.upd hu hT,h.objs.upd' hu hT,h.upds.upd hu hT,h.gen,h.phase⟩
theorem CL {r:Am} (h:Ak r=0):Aj r.store=0:=by
 unfold Ak at h;split at h
 ·rename_i h1;exact absurd h h1
 ·rename_i h1
  have h2:Ap r.refs r.store=0:=by simpa using h1
  unfold Ap at h2;split at h2
  ·rename_i h3;exact absurd h2 h3
  ·rename_i h3;simpa using h3
variable [Ghost]
theorem XN {S:Nat→Prop} {w:World} {a:Option Addr} {n cap:Nat} {l:List Mv} (h:AJ S w (.slice a n cap) l) (hn:0<l.length):
  ∃ad,a=some ad∧∀j u,(AN (fun i=>Bw (mv l i)) l.length)[j]?=some u→w.cell? (ad.add j)=some u:=by
 obtain⟨⟨a',cap',hv,h1,h2,h3,h4⟩,_⟩:=h;cases hv;obtain⟨b,off,rfl,hb,hc⟩:=h4 hn;refine⟨_,rfl,fun j u hu=>?_⟩;have hj:j<l.length*3:=by
  rcases Nat.lt_or_ge j (l.length*3) with h|h
  ·exact h
  ·rw[List.getElem?_eq_none (by rw[Bc (sz:=3) fun _ _=>rfl];exact h)] at hu;cases hu
 have hi':j / 3<l.length:=by omega
 have hm:j % 3<(Bw (mv l (j / 3))).length:=by show j % 3<3;omega
 have e:=CJ (cs:=fun i=>Bw (mv l i)) (sz:=3) (n:=l.length) (fun _ _=>rfl) (j / 3) hi' (j % 3) _ (List.getElem?_eq_getElem hm);rw[show j / 3*3+j % 3=j by omega,hu] at e;have:=hc (j / 3) hi' (j % 3) u (by show(Bw (mv l (j / 3)))[j % 3]?=some u;rw[List.getElem?_eq_getElem hm];exact e.symm);rw[show(⟨b,off,none⟩:Addr).add j=⟨b,off+j,none⟩ by unfold Addr.add;split<;>simp_all];rw[show off+j=off+j / 3*3+j % 3 by omega];exact this
theorem Sh (l:List Mv):∀u∈AN (fun i=>Bw (mv l i)) l.length,u.oneCell'=true:=Jq fun _ _=>XQ _
theorem JP {B:Nat} {w:World} {v mv:Value} {l more:List Mv} {S:Nat→Prop} (ty:TypeId) (hG:GE B w v l) (h:AJ S w mv more)
  (hl:(l.length+more.length)*32≤140737488351232) (hB:B≤w.heap.size):
  ∃v' x,(Builtin.append_ #[26,26] ty #[v,mv]).run Tryz.prog w=.ok v' x∧GE B x v' (l++more)∧AK (fun b=>v.ownBlock=some b) w x:=by
 obtain⟨i0,hi,hz0,hz1,hz2⟩:=info_parts Tryz.infoUpd;have hG':=hG;obtain⟨hown,hok⟩:=hG;have h':=h;obtain⟨⟨a,cap,rfl,hc1,hc2,hc3,_⟩,hok2⟩:=h;have hok3:∀r∈l++more,ZK r:=fun r hr=>by
  rcases List.mem_append.1 hr with hr|hr
  ·exact hok r hr
  ·exact hok2 r hr
 by_cases h0:more.length=0
 ·obtain rfl:more=[]:=List.length_eq_zero_iff.1 h0
  obtain⟨base,sc,hv,hle⟩:∃base sc,v=.slice base l.length sc∧l.length≤sc:=by
   rcases hown.2 with⟨rfl,hn⟩|⟨g,c,cur,rfl,_,_,hn,_⟩
   ·exact⟨none,0,by rw[hn],by omega⟩
   ·exact⟨_,_,rfl,hn⟩
  subst hv;refine⟨_,w,run_append_nothing _ 26 26 ty 88 i0 Tryz.underlying26 hi base l.length sc hle _
   ⟨.inl ⟨_,Tryz.underlying26⟩,fun w'=>by simp[Builtin.lenOf],by cases a<;>simp[Builtin.firstCells]<;>rfl,by cases a<;>simp[Builtin.firstCells]<;>rfl,by simp,by simp⟩,?_,AK.refl _ _⟩
  rw[List.append_nil];exact hG'
 ·obtain⟨ad,rfl,hnews⟩:=XN h' (by omega)
  obtain⟨g,c,x,hr,ho,hg,hor,hlt⟩:=run_append_lies (P:=Tryz.prog) w 26 ty B 88 i0 _ 3 32 Tryz.underlying26 hi hz0 hz1 hz2 rfl (by omega) v l.length _ hown ad more.length cap
   (AN (fun i=>Bw (mv more i)) more.length) (Bc fun _ _=>rfl) hnews (Sh _) (by omega) (by unfold maxLen;omega) (by omega) hB _ rfl
  refine⟨_,x,hr,⟨?_,hok3⟩,AK.grown (AK.refl _ _) hg (fun k hk _=>hk)⟩;rw[List.length_append,Df];have e1:AN (fun i=>Bw (mv (l++more) i)) l.length=AN (fun i=>Bw (mv l i)) l.length:=
   Bi fun i hi=>by
    have:mv (l++more) i=mv l i:=by unfold mv at_;simp only[List.getD_eq_getElem?_getD,List.getElem?_append_left hi]
    rw[this]
  have e2:AN (fun j=>Bw (mv (l++more) (l.length+j))) more.length=AN (fun i=>Bw (mv more i)) more.length:=
   Bi fun i hi=>by
    have:mv (l++more) (l.length+i)=mv more i:=by
     unfold mv at_;simp only[List.getD_eq_getElem?_getD];rw[List.getElem?_append_right (by omega),show l.length+i-l.length=i by omega]
    rw[this]
  rw[e1,e2];exact ho
theorem Ok (w:World):GE w.heap.size (w.alloc (.cells #[] 88)) (.slice (some ⟨w.heap.size,0,none⟩) 0 0) []:=
 ⟨World.ownsRow_made w #[] 0 (Nat.le_refl _) (Nat.zero_le _) (by simp),fun r h=>by cases h⟩
theorem KL (l:List Mv) (v:Value) (S:Nat→Prop) (w:World) (h:AJ S w v l):
  Calls Tryz.prog 115 #[v] w fun e w'=>∃v',e=.returned v'∧GE w.heap.size w' v' l∧Below w.heap.size w w':=by
 have h':=h;obtain⟨a,n,cap,HN,rfl,h1,h2,h3,h4⟩:=h.open;clear h4 h;have q22:∀(w:World) (a:Option Addr) (n c n' c':Nat),(binOp .eql 26 (.slice a n c) (.slice none n' c')).run Tryz.prog w=.ok (.bool a.isNone) w:=fun w a n c n' c'=>Lib.run_eql_slice_nil w _ _ a n c n' c' Tryz.underlying26
 cases a with
 | none=>
  have hl0:l=[]:=by
   obtain⟨⟨a,cap,e,_,_,_,h4⟩,_⟩:=h';cases e;rcases Nat.eq_zero_or_pos l.length with h|h
   ·exact List.length_eq_zero_iff.1 h
   ·obtain⟨b,off,e,_⟩:=h4 h;cases e
  subst hl0
  go_enter Tryz.func115, Tryz.ntmps115
  go_wp2_with fail;go_ret;exact⟨_,rfl,GE.nil _ _,Below.refl _ _⟩
 |some ad=>
  have hB0:Below w.heap.size w (w.alloc (.cells #[] 88)):=bal;obtain⟨v1,x1,hr1,ho1,hu1⟩:=JP (l:=[]) 26 (Ok w) (h'.below hB0) (by have:=HN.out;simp;omega) hB0.size;have hB1:Below w.heap.size w x1:=hB0.trans (hu1.below (B:=w.heap.size) hB0.size (fun b hb=>((Ok w).block hb).1));rw[List.nil_append] at ho1;have HE:=zh (And.intro ho1 hB1);obtain⟨a1,c1,rfl⟩:=ho1.shape;clear ho1 hB1 hu1 hB0 h'
  go_enter Tryz.func115, Tryz.ntmps115
  go_wp2_with (at_builtin;refine AY rfl (.tmp 5) (.tmp 6) 26 rfl _ _ _ rfl rfl hr1 ?_);go_ret;exact⟨_,rfl,HE.out.1,HE.out.2⟩
theorem AJ.bytes {S:Nat→Prop} {w:World} {v:Value} {l:List Mv} (h:AJ S w v l):l.length*32≤140737488351232:=
 let⟨⟨_,_,_,_,_,h3,_⟩,_⟩:=h;h3
end Go.Proofs.YtgbnlmplkealdaaGreatDoor
