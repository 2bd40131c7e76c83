
/- DeskD: walk of desk. -/
import Derived.Test.YtgbnlmplkealdaaGreatDoorC35
import Derived.Test.YtgbnlmplkealdaaGreatDoorC38
set_option linter.all false
set_option maxHeartbeats 16000000
set_option maxRecDepth 100000
namespace Go.Proofs.YtgbnlmplkealdaaGreatDoor
open Go.RowKit
variable [Ghost]
def QV (l:List Am) (a:Ac):Int:=if Bp l≠0 then Bp l else Dt l a
def QW (l:List Am) (a:Ac):List Am:=if QV l a=0 then EH l a else[]
def Wj (l:List Am) (a:Ac):Bool:=if QV l a=0 then MQ l a else false
theorem NB (l:List Am) (a:Ac) (cv ov uv:Value) (S S1:Nat→Prop) (w:World) (h:Az S w cv l) (ha:DC S1 w a ov uv) (ht:Qf w):
  Calls Tryz.prog 11 #[.agg #[cv],IS a ov uv] w fun e w'=>∃v',e=.returned (.tuple #[.agg #[v'],.bool (Wj l a),.int .i64 (QV l a)])∧DP w.heap.size w' v' (QW l a)∧Below w.heap.size w w':=by
 obtain⟨oa,oc,rfl⟩:=ha.objs.vshape;obtain⟨⟨ua,uc⟩,rfl⟩:=ha.upds.shape;obtain⟨sa,sc,rfl⟩:=h.vshape;have HA:=zh ha;have H:=zh h;have HTw:=zh ht;have HE:=zh (show QV l a=if Bp l≠0 then Bp l else Dt l a from rfl);have HL:=zh (show QW l a=if QV l a=0 then EH l a else[] from rfl);have HD:=zh (show Wj l a=if QV l a=0 then MQ l a else false from rfl);obtain⟨R,hR,hR1,HB0⟩:=AF w [.cells #[.slice sa l.length sc] 24,.cells #[.int .i64 a.kind,.int .i64 a.on,.int .i64 a.up,.int .i64 a.late,.slice oa a.push.objects.length oc,.slice ua a.push.updates.length uc,.bool a.push.force] 30,.cells #[.slice none 0 0] 24];simp only[List.foldl] at hR1;have hRb:=hR.below;have hRn:=hR.next
 have c0:=fun x (hx:In R x)=>Aa (j:=0) (HB0 x hx 0 _ rfl) rfl
 have a0:=fun x (hx:In R x)=>Aa (j:=0) (HB0 x hx 1 _ rfl) rfl
 have a1:=fun x (hx:In R x)=>Aa (j:=1) (HB0 x hx 1 _ rfl) rfl
 have a2:=fun x (hx:In R x)=>Aa (j:=2) (HB0 x hx 1 _ rfl) rfl
 have a3:=fun x (hx:In R x)=>Aa (j:=3) (HB0 x hx 1 _ rfl) rfl
 have a4:=fun x (hx:In R x)=>Aa (j:=4) (HB0 x hx 1 _ rfl) rfl
 have a5:=fun x (hx:In R x)=>Aa (j:=5) (HB0 x hx 1 _ rfl) rfl
 have a6:=fun x (hx:In R x)=>Aa (j:=6) (HB0 x hx 1 _ rfl) rfl
 simp only[Nat.add_zero] at c0;have HZ:=zh (fun x (hx:In R x)=>show x.heap[w.heap.size+2]?=some (.cells #[.slice none 0 0] 24 (0,0)) from HB0 x hx 2 _ rfl);have HSz:=zh (fun x (hx:In R x)=>show w.heap.size+3≤x.heap.size from lt_of_block (HB0 x hx 2 _ rfl));clear HB0;have HCk:=zh (fun x (hx:In R x)=>Fv l _ _ x (H.out.below (hRb _ hx)));have cc:=c0 _ hR1;clear h ha ht;simp only[IS];by_cases hz:Bp l=0
 case neg=>
  have HE2:=zh (show QV l a=Bp l by rw[HE.out,if_pos hz]);have HL2:=zh (show QW l a=[] by rw[HL.out,HE2.out,if_neg hz]);have HD2:=zh (show Wj l a=false by rw[HD.out,HE2.out,if_neg hz]);have q1:(Bp l==0)=false:=by simpa using hz
  have q2:(Bp l !=0)=true:=by simpa using hz
  clear hz HE HL HD;generalize Bp l=ce at*
  go_enter Tryz.func11, Tryz.ntmps11
  go_wp2_with fail;refine(HCk.out _ hR1).mono ?_;rintro e w1 ⟨rfl,hb1⟩;have hR2:=hRn _ _ hR1 hb1;clear cc hb1;have cc:=c0 _ hR2;have hR3:=hR.alloc _ (.cells #[.slice sa l.length sc,.bool false] 75) hR2;have HZW:=zh (HZ.out _ hR3);have HBW:=zh (hRb _ hR3);have gz:=Aa (j:=0) HZW.out rfl;have fz:=Ad (j:=0) HZW.out;go_wp2_with fail;have hu5:=su (w.heap.size+2) 0 (w1.alloc (.cells #[.slice sa l.length sc,.bool false] 75)) (.slice none 0 0);have hk5:=sb HZW.out (.slice none 0 0);have hB5:=HBW.out.trans (hu5.below (B:=w.heap.size) HBW.out.size (fun b hb=>by have e2:b=w.heap.size+2:=hb;omega));generalize (w1.alloc (.cells #[.slice sa l.length sc,.bool false] 75)).setCell ⟨w.heap.size+2,0,none⟩ (.slice none 0 0)=x5 at*;have k0:=Aa (j:=0) hk5 rfl;refine bodyPost_ret (v:=.tuple #[.agg #[.slice none 0 0],.bool false,.int .i64 ce]) (by simp[results,Tryz.results11,go_sem];simp[k0]<;>rfl) rfl ?_;refine⟨_,by rw[HD2.out,HE2.out]<;>rfl,by rw[HL2.out];exact⟨fun _=>False,BD.nil _ _ _ (fun _ h=>h.elim),fun _ h=>h.elim⟩,hB5⟩
 have Hc:=zh (Em.1 hz);have hl3:=Hc.out.len;rw[if_neg (by simpa using hz)] at HE;rw[hz] at HCk;have H3:=H.out;rw[hl3] at H3;have H3:=zh H3;have Hl3:=zh hl3;clear hz hl3;obtain⟨E,hE⟩:∃E,E=Dt l a:=⟨_,rfl⟩;rw[←hE] at HE;have HEe:=zh hE;clear hE
 go_enter Tryz.func11, Tryz.ntmps11
 go_wp2_with fail;refine(HCk.out _ hR1).mono ?_;rintro e w1 ⟨rfl,hb1⟩;have hR2:=hRn _ _ hR1 hb1;clear cc hb1;have cc:=c0 _ hR2;have HKn:=zh (heap_alloc_new w1 (.cells #[.slice sa l.length sc,.bool false] 75));have hR3:=hR.alloc _ (.cells #[.slice sa l.length sc,.bool false] 75) hR2;have hK1:=HSz.out _ hR2;rw[Hl3.out] at HKn;have HDo:=zh (Ml w1.heap.size sa sc l a _ _ S S1 (w1.alloc (.cells #[.slice sa 3 sc,.bool false] 75)) HKn.out (H3.out.below (by have:=hRb _ hR3;rw[Hl3.out] at this;exact this)) Hc.out (HA.out.below (by have:=hRb _ hR3;rw[Hl3.out] at this;exact this)) (HTw.out.below (by have:=hRb _ hR3;rw[Hl3.out] at this;exact this)));simp only[IS] at HDo;rw[←HEe.out] at HDo;have b0:=a0 _ hR3;have b1:=a1 _ hR3;have b2:=a2 _ hR3;have b3:=a3 _ hR3;have b4:=a4 _ hR3;have b5:=a5 _ hR3;have b6:=a6 _ hR3;rw[←Hl3.out] at HDo;go_wp2_with fail;refine HDo.out.mono ?_;rintro e w3 ⟨rfl,hdn⟩;have Hdn:=zh hdn;clear hdn HDo b0 b1 b2 b3 b4 b5 b6 cc;by_cases hE0:E=0
 case neg=>
  have hb3:=Hdn.out.1 hE0;have hR4:=hRn _ _ hR3 hb3;have HE2:=HE;have HL2:=zh (show QW l a=[] by rw[HL.out,HE2.out,if_neg hE0]);have HD2:=zh (show Wj l a=false by rw[HD.out,HE2.out,if_neg hE0]);have q2:(E !=0)=true:=by simpa using hE0
  clear hb3 hE0 HE HL HD Hdn;have HZW:=zh (HZ.out _ hR4);have HBW:=zh (hRb _ hR4);have gz:=Aa (j:=0) HZW.out rfl;have fz:=Ad (j:=0) HZW.out;go_wp2_with fail;have hu5:=su (w.heap.size+2) 0 w3 (.slice none 0 0);have hk5:=sb HZW.out (.slice none 0 0);have hB5:=HBW.out.trans (hu5.below (B:=w.heap.size) HBW.out.size (fun b hb=>by have e2:b=w.heap.size+2:=hb;omega));generalize w3.setCell ⟨w.heap.size+2,0,none⟩ (.slice none 0 0)=x5 at*;have k0:=Aa (j:=0) hk5 rfl;refine bodyPost_ret (v:=.tuple #[.agg #[.slice none 0 0],.bool false,.int .i64 E]) (by simp[results,Tryz.results11,go_sem];simp[k0]<;>rfl) rfl ?_;refine⟨_,by rw[HD2.out,HE2.out]<;>rfl,by rw[HL2.out];exact⟨fun _=>False,BD.nil _ _ _ (fun _ h=>h.elim),fun _ h=>h.elim⟩,hB5⟩
 obtain⟨hu3,v3,hk3,ho3⟩:=Hdn.out.2 hE0;subst hE0;clear Hdn;obtain⟨a3,c3,rfl⟩:=ho3.shape;have HE2:=HE;have HL2:=zh (show QW l a=EH l a by rw[HL.out,if_pos HE2.out]);have HD2:=zh (show Wj l a=MQ l a by rw[HD.out,if_pos HE2.out]);clear HE HL HD;generalize MQ l a=ad at*;have HZW:=zh (hu3.blk (HZ.out _ hR3) (fun e=>by have e2:w.heap.size+2=w1.heap.size:=e;omega));have HBW:=zh ((hRb _ hR3).trans (hu3.below (B:=w.heap.size) (hRb _ hR3).size (fun b hb=>by have e2:b=w1.heap.size:=hb;omega)));have HK3:=zh hk3;have HO3:=zh ho3;have hKz:(w1.alloc (.cells #[.slice sa l.length sc,.bool false] 75)).heap.size=w1.heap.size+1:=by simp
 have HKz:=zh hKz;clear hu3 hk3 ho3 hKz;rw[HKz.out] at HO3;generalize w1.heap.size=K at*;go_upto_region 7 with fail;refine rh (In (fun x:World=>x.cell? ⟨K,0,none⟩=some (.slice a3 (EH l a).length c3)∧x.cell? ⟨K,1,none⟩=some (.bool ad))) ?_;have HZ0:=zh (show w3.drew.heap[w.heap.size+2]?=_ from HZW.out);have HBx:=zh (HBW.out.trans (Below.refl _ _).drew);have HOx:=zh (HO3.out.below (Below.refl _ _).drew);have hC0:In (fun x:World=>x.cell? ⟨K,0,none⟩=some (.slice a3 (EH l a).length c3)∧x.cell? ⟨K,1,none⟩=some (.bool ad)) w3.drew:=show(fun x:World=>x.cell? ⟨K,0,none⟩=some (.slice a3 (EH l a).length c3)∧x.cell? ⟨K,1,none⟩=some (.bool ad)) w3.drew from⟨Aa (j:=0) HK3.out rfl,Aa (j:=1) HK3.out rfl⟩
 clear HZW HBW HO3 HK3;generalize w3.drew=y0 at*;refine tk 0 (.pointer (some ⟨K,0,none⟩)) (fun w hSw=>?_) hC0 ?_
 ·go_simp
 simp only[tkS];refine tk 1 (.pointer (some ⟨K,0,none⟩)) (fun w hSw=>?_) hC0 ?_
 ·go_simp
 simp only[tkS];refine tk 2 (.pointer (some ⟨K,0,none⟩)) (fun w hSw=>?_) hC0 ?_
 ·go_simp
 simp only[tkS];refine tk 3 (.agg #[.slice a3 (EH l a).length c3]) (fun w hSw=>?_) hC0 ?_
 ·have yq:_∧_:=hSw;have yy:=yq.1;go_simp
 simp only[tkS];refine tk 4 (.pointer (some ⟨K,0,none⟩)) (fun w hSw=>?_) hC0 ?_
 ·go_simp
 simp only[tkS];refine tk 5 (.pointer (some ⟨K,0,none⟩)) (fun w hSw=>?_) hC0 ?_
 ·go_simp
 simp only[tkS];refine tk 6 (.pointer (some ⟨K,1,none⟩)) (fun w hSw=>?_) hC0 ?_
 ·go_simp
 simp only[tkS];refine tk 7 (.bool ad) (fun w hSw=>?_) hC0 ?_
 ·have yq:_∧_:=hSw;have yy:=yq.2;go_simp
 simp only[tkS];refine al1 8 ?_;refine Or.inl ?_;have HZW:=HZ0;have HBW:=HBx;have gz:=Aa (j:=0) HZW.out rfl;have fz:=Ad (j:=0) HZW.out;have hu5:=su (w.heap.size+2) 0 y0 (.slice a3 (EH l a).length c3);have hk5:=sb HZW.out (.slice a3 (EH l a).length c3);have hB5:=HBW.out.trans (hu5.below (B:=w.heap.size) HBW.out.size (fun b hb=>by have e2:b=w.heap.size+2:=hb;omega));have hq:=(show _∧_ from hC0);have hC1:In (fun x:World=>x.cell? ⟨K,0,none⟩=some (.slice a3 (EH l a).length c3)∧x.cell? ⟨K,1,none⟩=some (.bool ad)) (y0.setCell ⟨w.heap.size+2,0,none⟩ (.slice a3 (EH l a).length c3)):=show(fun x:World=>x.cell? ⟨K,0,none⟩=some (.slice a3 (EH l a).length c3)∧x.cell? ⟨K,1,none⟩=some (.bool ad)) (y0.setCell ⟨w.heap.size+2,0,none⟩ (.slice a3 (EH l a).length c3)) from⟨hu5.cell hq.1 (fun e=>by have e2:K=w.heap.size+2:=e;omega),hu5.cell hq.2 (fun e=>by have e2:K=w.heap.size+2:=e;omega)⟩
 clear hq;have Ho5:=zh ((HOx.out.upd hu5 (fun b hb _ e=>by have e2:b=w.heap.size+2:=e;omega)).mono (B':=w.heap.size) (by omega));have Hk5:=zh hk5;have HB5:=zh hB5;clear hu5 hk5 hB5;go_wp2_with fail
 first|refine⟨hC1,?_⟩|skip
 change wpAnyH _ _ _ _ _ _ _ _ (y0.setCell ⟨w.heap.size+2,0,none⟩ (.slice a3 (EH l a).length c3));clear gz fz HZ0;generalize y0.setCell ⟨w.heap.size+2,0,none⟩ (.slice a3 (EH l a).length c3)=x5 at*;refine tk 9 (.bool ad) (fun w hSw=>?_) hC1 ?_
 ·go_simp
 simp only[tkS];refine tk 10 (.int .i64 0) (fun w hSw=>?_) hC1 ?_
 ·go_simp
 simp only[tkS];refine wpAnyH_done (by kernel_rfl) ?_ _;have k0:=Aa (j:=0) Hk5.out rfl;go_wp2_with fail;refine bodyPost_ret (v:=.tuple #[.agg #[.slice a3 (EH l a).length c3],.bool ad,.int .i64 0]) (by simp[results,Tryz.results11,go_sem];simp[k0]<;>rfl) rfl ?_;refine⟨_,by rw[HD2.out,HE2.out]<;>rfl,by rw[HL2.out];exact Ho5.out,HB5.out⟩
variable [Ghost]
theorem Ta (w:World):
  Calls Tryz.prog 19 #[] w fun e w'=>∃v,e=.returned (.agg #[v])∧Az (fun b=>w.heap.size≤b) w' v [BE,BE,BE]∧Below w.heap.size w w':=by
 have hmk:∀w,(Instr.makeSlice 22 (.int .i64 3) (.int .i64 3)).run Tryz.prog w=.ok (.slice (some ⟨w.heap.size,0,none⟩) 3 3) (w.alloc (.cells z21 34)):=fun _=>by kernel_rfl
 have hz0:=heap_alloc_new (w.alloc (.cells #[.slice (some ⟨w.heap.size+1,0,none⟩) 3 3] 24)) (.cells z21 34);have hc0:=(((Below.refl _ _).alloc (Nat.le_refl _) (.cells z21 34)).block _ (by simp)).trans (heap_alloc_new w (.cells #[.slice (some ⟨w.heap.size+1,0,none⟩) 3 3] 24));have hs0:(w.alloc (.cells #[.slice (some ⟨w.heap.size+1,0,none⟩) 3 3] 24)).heap.size=w.heap.size+1:=by simp
 rw[hs0] at hz0;have hb0:=((Below.refl w.heap.size w).alloc (Nat.le_refl _) (.cells #[.slice (some ⟨w.heap.size+1,0,none⟩) 3 3] 24)).alloc (by simp) (.cells z21 34);have HZ:=zh hz0;have HC:=zh hc0;have HB:=zh hb0;clear hz0 hc0 hb0 hs0
 go_enter Tryz.func19, Tryz.ntmps19
 go_wp2_with fail;generalize ((w.alloc (.cells #[.slice (some ⟨w.heap.size+1,0,none⟩) 3 3] 24)).alloc (.cells z21 34))=x at*;have k0:=Aa (j:=0) HC.out rfl;have hz:∀i,i<3→Ag [BE,BE,BE] i=BE:=fun i hi=>by
  have:i=0∨i=1∨i=2:=by omega
  rcases this with rfl|rfl|rfl<;>rfl
 refine bodyPost_ret (v:=.agg #[.slice (some ⟨w.heap.size+1,0,none⟩) 3 3]) (by simp[results,Tryz.results19,go_sem];simp[k0]<;>rfl) rfl ?_;refine⟨_,rfl,⟨fun _=>⟨.slice none 0 0,.slice none 0 0,.slice none 0 0,.slice none 0 0⟩,⟨_,3,rfl,by decide,by decide,by decide,fun _=>⟨_,0,rfl,⟨by omega,MX.of_block HZ.out⟩,fun i hi j u hu=>?_⟩⟩,fun i hi=>?_⟩,HB.out⟩
 ·replace hu:(Ba (Ag [BE,BE,BE] i) ⟨.slice none 0 0,.slice none 0 0,.slice none 0 0,.slice none 0 0⟩)[j]?=some u:=hu
  rw[hz i hi] at hu;have hj:j<7:=by
   rcases Nat.lt_or_ge j 7 with h|h
   ·exact h
   ·rw[List.getElem?_eq_none (by simpa[Ba] using h)] at hu;cases hu
  have h1:i=0∨i=1∨i=2:=by have:i<3:=hi;omega
  have h2:j=0∨j=1∨j=2∨j=3∨j=4∨j=5∨j=6:=by omega
  rcases h1 with rfl|rfl|rfl<;>rcases h2 with rfl|rfl|rfl|rfl|rfl|rfl|rfl<;>(cases hu;exact Aa HZ.out rfl)
 ·rw[hz i hi];exact Dz _ _
theorem Wp.step {K:Nat} {w w':World} {l:List Am} {a:Ac} {v:Value} {S:Nat→Prop} (hd:Wp K w w' (Dt l a) (EH l a) (MQ l a)) (hK:w.heap[K]?=some (.cells #[v,.bool false] 75 (0,0))) (h:Az S w v l) (hc:BC l):
  ∃v',w'.heap[K]?=some (.cells #[v',.bool (Fi l a)] 75 (0,0))∧AK (fun b=>b=K) w w'∧Az (fun b=>S b∨w.heap.size≤b) w' v' (Ff l a):=by
 by_cases he:Dt l a=0
 ·obtain⟨hu,v',h1,F,hO,hF⟩:=hd.2 he
  have e1:Fi l a=MQ l a:=by unfold Fi;rw[if_pos he]
  have e2:Ff l a=EH l a:=by unfold Ff;rw[if_pos he]
  rw[e1,e2];exact⟨v',h1,hu,hO.reps (by rw[(LG hc he).len];omega) (fun b hb=>.inr (hF b hb)) (fun b hb=>.inr (hO.block hb).1)⟩
 ·have hb:=hd.1 he
  have e1:Fi l a=false:=by unfold Fi;rw[if_neg he]
  have e2:Ff l a=l:=by unfold Ff;rw[if_neg he]
  rw[e1,e2];have hu:=FV hb;exact⟨v,(hb.block _ (lt_of_block hK)).trans hK,⟨hu.os,hu.tape,hu.output,hu.size,fun b hb _=>hu.block b hb id⟩,(h.below hb).weaken fun b hb=>.inl hb⟩
structure KI (B D:Nat) (w:World) (s:List Ac) (k:Nat) (tv dv:Value):Prop where
 box:∃v,w.heap[D]?=some (.cells #[v] 24 (0,0))∧Az (fun b=>B≤b∧b≠D∧tv.ownBlock≠some b∧dv.ownBlock≠some b) w v (EB s k)
 told:w.ownsRow B 4 1 tv k ((Sv s k).map .bool)
 done:w.ownsRow B 37 1 dv k ((Me s k).map (.int .i64))
 apart:∀g,tv.ownBlock=some g→dv.ownBlock≠some g
theorem KI.below {B D:Nat} {w w':World} {s:List Ac} {k:Nat} {tv dv:Value} (h:KI B D w s k tv dv) (hb:Below w.heap.size w w'):KI B D w' s k tv dv:=by
 obtain⟨⟨v,h1,h2⟩,h3,h4,h5⟩:=h;exact⟨⟨v,Ab h1 hb,h2.below hb⟩,DR h3 hb,DR h4 hb,h5⟩
theorem KI.next {B D:Nat} {w3 w4 w5 w6:World} {s:List Ac} {k:Nat} {tv dv tv' dv' v':Value} (h:KI B D w3 s k tv dv)
  (hv:Az (fun b=>(B≤b∧b≠D∧tv.ownBlock≠some b∧dv.ownBlock≠some b)∧b<w3.heap.size) w3 v' (EB s (k+1)))
  (h4:AK (fun b=>b=D) w3 w4) (hD:w4.heap[D]?=some (.cells #[v'] 24 (0,0)))
  (h5:AK (fun b=>tv.ownBlock=some b) w4 w5) (ht:w5.ownsRow B 4 1 tv' (k+1) ((Sv s (k+1)).map .bool)) (hta:tv'.ownBlock=tv.ownBlock∨tv'.ownBlock=some (w4.heap.size+1))
  (h6:AK (fun b=>dv.ownBlock=some b) w5 w6) (hd:w6.ownsRow B 37 1 dv' (k+1) ((Me s (k+1)).map (.int .i64))) (hda:dv'.ownBlock=dv.ownBlock∨dv'.ownBlock=some (w5.heap.size+1)):
  KI B D w6 s (k+1) tv' dv':=by
 obtain⟨⟨v,b1,b2⟩,ht0,hd0,hap⟩:=h;have z4:=h4.size;have z5:=h5.size;have z6:=h6.size;have hDl:D<w3.heap.size:=lt_of_block b1;have ntD:tv.ownBlock≠some D:=Gv ht0 b1 (by decide);have ndD:dv.ownBlock≠some D:=Gv hd0 b1 (by decide);have tlt:∀g,tv'.ownBlock=some g→g<w5.heap.size:=fun g hg=>(ht.lt g hg).2
 have told:∀g,tv.ownBlock=some g→g<w3.heap.size:=fun g hg=>(ht0.lt g hg).2
 have dlt:∀g,dv.ownBlock=some g→g<w3.heap.size:=fun g hg=>(hd0.lt g hg).2
 have hap1:∀g,tv'.ownBlock=some g→dv.ownBlock≠some g:=fun g hg e=>by
  rcases hta with h|h
  ·exact hap g (h ▸ hg) e
  ·have e1:w4.heap.size+1=g:=by rw[h] at hg;exact Option.some.inj hg
   have:=dlt g e;omega
 refine⟨⟨v',h6.blk (h5.blk hD ntD) ndD,?_⟩,Fx ht h6 hap1,hd,fun g hg e=>?_⟩
 ·refine(((hv.upd h4 (fun b hb e=>hb.1.2.1 e)).upd h5 (fun b hb e=>hb.1.2.2.1 e)).upd h6 (fun b hb e=>hb.1.2.2.2 e)).weaken fun b hb=>⟨hb.1.1,hb.1.2.1,fun e=>?_,fun e=>?_⟩
  ·rcases hta with h|h
   ·exact hb.1.2.2.1 (h ▸ e)
   ·have e1:w4.heap.size+1=b:=by rw[h] at e;exact Option.some.inj e
    have:=hb.2;omega
  ·rcases hda with h|h
   ·exact hb.1.2.2.2 (h ▸ e)
   ·have e1:w5.heap.size+1=b:=by rw[h] at e;exact Option.some.inj e
    have:=hb.2;omega
 ·rcases hda with h|h
  ·exact hap1 g hg (h ▸ e)
  ·have e1:w5.heap.size+1=g:=by rw[h] at e;exact Option.some.inj e
   have:=tlt g hg;omega
variable [Ghost]
def Pn (s:List Ac):Nat:=if s.length≤12 then s.length else 0
def Zo (s:List Ac):List Am:=if s.length≤12 then EB s s.length else[]
def Zp (s:List Ac):Int:=if s.length≤12 then 0 else 2
structure aQ (B:Nat) (w:World) (s:List Ac) (v tv dv:Value):Prop where
 clu:Az (fun b=>B≤b) w v (Zo s)
 told:w.ownsRow B 4 1 tv (Pn s) ((Sv s (Pn s)).map .bool)
 done:w.ownsRow B 37 1 dv (Pn s) ((Me s (Pn s)).map (.int .i64))
theorem Mo (s:List Ac) (sv:Value) (S:Nat→Prop) (w:World) (h:GD S w sv s) (ht:Qf w):
  Calls Tryz.prog 14 #[sv] w fun e w'=>∃v tv dv,e=.returned (.tuple #[.agg #[v],tv,dv,.int .i64 (Zp s)])∧aQ w.heap.size w' s v tv dv∧Below w.heap.size w w':=by
 obtain⟨a,n,cap,fr,HN,rfl,_,_,h3,h4,h5⟩:=h.open;have HTw:=zh ht;have H4:=zh h4;have H5:=zh h5;clear h h4 h5 ht;obtain⟨R,hR,hR1,HB0⟩:=AF w [.cells #[.slice none 0 0] 24];simp only[List.foldl] at hR1;have hRb:=hR.below;have hRn:=hR.next
 have HZ:=zh (fun x (hx:In R x)=>show x.heap[w.heap.size]?=some (.cells #[.slice none 0 0] 24 (0,0)) from HB0 x hx 0 _ rfl);clear HB0;have HN2:=zh (show Pn s=if n≤12 then n else 0 by rw[HN.out];rfl);have HC2:=zh (show Zo s=if n≤12 then EB s n else[] by rw[HN.out];rfl);have HW2:=zh (show Zp s=if n≤12 then 0 else 2 by rw[HN.out];rfl);have hsz5:(w.alloc (.cells #[.slice none 0 0] 24)).heap.size=w.heap.size+1:=by simp
 by_cases hn:n≤12
 case neg=>
  rw[if_neg hn] at HN2 HC2 HW2;have q1:(12:Int)<(n:Int):=by omega
  have HZW:=zh (HZ.out _ hR1);have HBW:=zh (hRb _ hR1);have gz:=Aa (j:=0) HZW.out rfl;have fz:=Ad (j:=0) HZW.out
  go_enter Tryz.func14, Tryz.ntmps14
  go_wp2_with fail;refine bodyPost_ret (v:=.tuple #[.agg #[.slice none 0 0],.slice none 0 0,.slice none 0 0,.int .i64 2]) (by simp[results,Tryz.results14,go_sem]<;>rfl) rfl ?_;refine⟨_,_,_,by rw[HW2.out],⟨by rw[HC2.out];exact Az.nil _ _ _ _ (by omega),by rw[HN2.out];exact World.ownsRow_nil _ _ _ _,by rw[HN2.out];exact World.ownsRow_nil _ _ _ _⟩,HBW.out⟩
 rw[if_pos hn] at HN2 HC2 HW2;have q1:¬(12:Int)<(n:Int):=by omega
 obtain⟨x5,hx5⟩:∃x5,x5=(w.alloc (.cells #[.slice none 0 0] 24)):=⟨_,rfl⟩;rw[←hx5] at hR1 hsz5;have Hx5:=zh hx5;clear hx5;obtain⟨Q,hQ,hQ1,hQu⟩:=FD x5;have hQb:=hQ.below;have hQn:=hQ.next
 have HQu:=zh hQu;clear hQu;have HQR:=zh (fun x (hx:In Q x)=>hRn _ _ hR1 (hQb _ hx));have Hs5:=zh hsz5;clear hsz5
 go_enter Tryz.func14, Tryz.ntmps14
 go_upto_region 3 with fail;rw[←Hx5.out];go_wp2_with fail;refine(Ta _).mono ?_;rintro e z1 ⟨v1,rfl,hv,hb1⟩;obtain⟨a1,c1,rfl⟩:=hv.vshape;replace hv:Az (fun b=>x5.heap.size≤b) z1 (.slice a1 3 c1) Vv:=hv;have hC1:=hQn _ _ hQ1 hb1;have hz1:=(hQb _ hC1).size;have hbA:Below z1.heap.size z1 (z1.alloc (.cells #[.slice a1 3 c1] 24)):=bal;have hQ9:=hQn _ _ hC1 hbA;have hb9:=heap_alloc_new z1 (.cells #[.slice a1 3 c1] 24);have hv9:=(hv.low.below hbA).weaken (S':=fun b=>x5.heap.size≤b∧b≠z1.heap.size) fun b hb=>⟨hb.1,by omega⟩
 have hD9:=hz1;have Hb9:=zh hb9;have Hv9:=zh hv9;clear hb9 hv9 hv hb1 hbA hz1 hC1;obtain⟨y9,hy9⟩:∃y9,y9=(z1.alloc (.cells #[.slice a1 3 c1] 24)):=⟨_,rfl⟩;have Hy9:=zh hy9;rw[←hy9] at Hb9 Hv9 hQ9;obtain⟨D,hD⟩:∃D,D=z1.heap.size:=⟨_,rfl⟩;have HDz:=zh hD;rw[←hD] at Hb9 Hv9 hD9;clear hD hy9;go_upto_region 7 with fail;rw[←Hy9.out];rw[←HDz.out];clear Hy9 HDz;have HD9:=zh hD9;have HA0:KI x5.heap.size D y9 s 0 (.slice none 0 0) (.slice none 0 0):=⟨⟨_,Hb9.out,Hv9.out.weaken fun b hb=>⟨hb.1,hb.2,by simp[Value.ownBlock],by simp[Value.ownBlock]⟩⟩,World.ownsRow_nil _ _ _ _,World.ownsRow_nil _ _ _ _,fun g hg=>by simp[Value.ownBlock] at hg⟩;have HA0:=zh HA0;clear Hb9 Hv9 hD9;go_loopw [7,8,20] (fun s7 s8 i wr=>∃(k:Nat) (t9 d9:Value),k≤n∧i=.int .i64 k∧t9=s7∧d9=s8∧In Q wr∧Hid (KI x5.heap.size D wr s k t9 d9)) (fun _ _ i _=>n-(intOf i).toNat)
 case atStart=>exact⟨0,_,_,Nat.zero_le _,rfl,rfl,rfl,hQ9,HA0⟩
 obtain⟨k,t9,d9,hk,rfl,rfl,rfl,hQr,HA⟩:=hrel;obtain⟨wo,rfl⟩:∃wo:World,wo=wr:=⟨_,rfl⟩;clear HA0 hQ9;by_cases hlt:k<n
 case neg=>
  obtain rfl:k=n:=by omega
  obtain⟨v2,hbx,hrv⟩:=HA.out.box;obtain⟨a2,c2,rfl⟩:=hrv.vshape;have hl3:=(FF s k).len;rw[hl3] at hbx hrv;have x0:=Aa (j:=0) hbx rfl;have HZW:=zh (HZ.out _ (HQR.out _ hQr));have HBW:=zh (hRb _ (HQR.out _ hQr));have gz:=Aa (j:=0) HZW.out rfl;have fz:=Ad (j:=0) HZW.out;have Hrv:=zh hrv;clear hrv hbx;go_wp2_with fail;have hu5:=su w.heap.size 0 wo (.slice a2 3 c2);have hk5:=sb HZW.out (.slice a2 3 c2);have hB5:=HBW.out.trans (hu5.below (B:=w.heap.size) HBW.out.size (fun b hb=>by have e2:b=w.heap.size:=hb;omega));generalize wo.setCell ⟨w.heap.size,0,none⟩ (.slice a2 3 c2)=y5 at*;have k0:=Aa (j:=0) hk5 rfl;refine bodyPost_ret (v:=.tuple #[.agg #[.slice a2 3 c2],t9,d9,.int .i64 0]) (by simp[results,Tryz.results14,go_sem];simp[k0]<;>rfl) rfl ?_;have hs5:=Hs5.out;refine⟨_,_,_,by rw[HW2.out],⟨by rw[HC2.out];exact(Hrv.out.upd hu5 (fun b hb e=>by have e2:b=w.heap.size:=e;have:=hb.1;omega)).weaken (fun b hb=>by have:=hb.1;omega),?_,?_⟩,hB5⟩
  ·rw[HN2.out];exact Lg (Fx HA.out.told hu5 (fun g hg e=>by have e2:g=w.heap.size:=e;have:=(HA.out.told.lt g hg).1;omega)) (by omega)
  ·rw[HN2.out];exact Lg (Fx HA.out.done hu5 (fun g hg e=>by have e2:g=w.heap.size:=e;have:=(HA.out.done.lt g hg).1;omega)) (by omega)
 obtain⟨b0,off0,rfl,_,k0,k1,k2,k3,k4,k5,k6⟩:=H4.out (by omega);have e0:=k0 k wo hlt (hRb _ (HQR.out _ hQr));have e1:=k1 k wo hlt (hRb _ (HQR.out _ hQr));have e2:=k2 k wo hlt (hRb _ (HQR.out _ hQr));have e3:=k3 k wo hlt (hRb _ (HQR.out _ hQr));have e4:=k4 k wo hlt (hRb _ (HQR.out _ hQr));have e5:=k5 k wo hlt (hRb _ (HQR.out _ hQr));have e6:=k6 k wo hlt (hRb _ (HQR.out _ hQr));clear k0 k1 k2 k3 k4 k5 k6;have hj1:=zk k;have hj2:(k:Int)<(n:Int):=by omega
 have HAc:=zh ((H5.out k hlt).below (hRb _ (HQR.out _ hQr)));have hX:=hQ.alloc _ (.cells #[.int .i64 (ac s k).kind,.int .i64 (ac s k).on,.int .i64 (ac s k).up,.int .i64 (ac s k).late,.slice (fr k).oa (ac s k).push.objects.length (fr k).oc,.slice (fr k).ua (ac s k).push.updates.length (fr k).uc,.bool (ac s k).push.force] 30) hQr;have HU:=zh (heap_alloc_new wo (.cells #[.int .i64 (ac s k).kind,.int .i64 (ac s k).on,.int .i64 (ac s k).up,.int .i64 (ac s k).late,.slice (fr k).oa (ac s k).push.objects.length (fr k).oc,.slice (fr k).ua (ac s k).push.updates.length (fr k).uc,.bool (ac s k).push.force] 30));have hbX:Below wo.heap.size wo (wo.alloc (.cells #[.int .i64 (ac s k).kind,.int .i64 (ac s k).on,.int .i64 (ac s k).up,.int .i64 (ac s k).late,.slice (fr k).oa (ac s k).push.objects.length (fr k).oc,.slice (fr k).ua (ac s k).push.updates.length (fr k).uc,.bool (ac s k).push.force] 30)):=bal;have HAu:=zh (HA.out.below hbX);have HAcu:=zh (HAc.out.below hbX);clear hbX HA HAc hQr;go_upto_region 9 with fail;generalize wo.alloc (.cells #[.int .i64 (ac s k).kind,.int .i64 (ac s k).on,.int .i64 (ac s k).up,.int .i64 (ac s k).late,.slice (fr k).oa (ac s k).push.objects.length (fr k).oc,.slice (fr k).ua (ac s k).push.updates.length (fr k).uc,.bool (ac s k).push.force] 30)=wu at*;generalize wo.heap.size=U at*;clear e0 e1 e2 e3 e4 e5 e6;obtain⟨v2,hbx,hrv⟩:=HAu.out.box;obtain⟨a2,c2,rfl⟩:=hrv.vshape;have hl3:=(FF s k).len
 rw[hl3] at hbx hrv;have x0:=Aa (j:=0) hbx rfl;have HK0:=zh (heap_alloc_new wu (.cells #[.slice a2 3 c2,.bool false] 75));have hbK:Below wu.heap.size wu (wu.alloc (.cells #[.slice a2 3 c2,.bool false] 75)):=bal;have hQk:=hQn _ _ hX hbK;have HAck:=zh (HAcu.out.below hbK);have Hrk:=zh (hrv.below hbK);have HUk:=zh (Ab HU.out hbK);have Hbk:=zh (Ab hbx hbK);have hDl:D<wu.heap.size:=lt_of_block hbx;have hxu:=(hQb _ hX).size;have HDo:=zh (Ml wu.heap.size a2 c2 (EB s k) (ac s k) _ _ _ _ (wu.alloc (.cells #[.slice a2 3 c2,.bool false] 75)) HK0.out Hrk.out (FF s k) HAck.out (HTw.out.below (hRb _ (HQR.out _ hQk))));simp only[IS] at HDo;obtain⟨b0,b1,b2,b3,b4,b5,b6⟩:=bc7 HUk.out;have Hrv:=zh hrv;clear hrv hbx HU;go_wp2_with fail;refine HDo.out.mono ?_;rintro e w3 ⟨rfl,hdn⟩;clear HDo x0 b0 b1 b2 b3 b4 b5 b6;obtain⟨v3,hk3,hu3,hv3⟩:=hdn.step HK0.out Hrk.out (FF s k);obtain⟨a3,c3,rfl⟩:=hv3.vshape;have hl4:=(OH (a:=ac s k) (FF s k)).len;rw[hl4] at hk3 hv3;have hkz:(wu.alloc (.cells #[.slice a2 3 c2,.bool false] 75)).heap.size=wu.heap.size+1:=by simp
 have hB3:Below wu.heap.size wu w3:=hbK.trans (hu3.below (B:=wu.heap.size) (by omega) (fun b hb=>by have e2:b=wu.heap.size:=hb;omega));have HA3:=zh (HAu.out.below hB3);have hbD3:=hu3.blk Hbk.out (fun e=>by have e2:D=wu.heap.size:=e;omega);have hQ3:=HQu.out _ _ _ hQk hu3 (fun b hb=>by have e2:b=wu.heap.size:=hb;omega);have HV3:=zh ((hv3.low).weaken (S':=fun b=>(x5.heap.size≤b∧b≠D∧t9.ownBlock≠some b∧d9.ownBlock≠some b)∧b<w3.heap.size) fun b hb=>⟨hb.1.elim id (fun h=>⟨by omega,by omega,fun e=>by have:=(HAu.out.told.lt b e).2;omega,fun e=>by have:=(HAu.out.done.lt b e).2;omega⟩),hb.2⟩);have Hk3:=zh hk3;have HD3:=zh hbD3;have hKD:wu.heap.size≠D:=by omega
 have hK3l:wu.heap.size<w3.heap.size:=lt_of_block hk3;clear hv3 hdn hu3 HK0 Hrk HAck HUk Hbk hbK hB3 hQk hX HAu HAcu Hrv hkz;generalize wu.heap.size=K at*;have x0:=Aa (j:=0) Hk3.out rfl;have gz:=Aa (j:=0) HD3.out rfl;have fz:=Ad (j:=0) HD3.out;generalize htb:Fi (EB s k) (ac s k)=tb at*;generalize hte:Dt (EB s k) (ac s k)=te at*;go_upto_region 12 with fail;have hu4:=su D 0 w3 (.slice a3 3 c3);have hD4:=sb HD3.out (.slice a3 3 c3);have x1:=hu4.cell (Aa (j:=1) Hk3.out rfl) hKD;have hQ4:=HQu.out _ _ _ hQ3 hu4 (fun b hb=>by have e2:b=D:=hb;have:=HD9.out;omega);have ntD:t9.ownBlock≠some D:=Gv HA3.out.told HD3.out (by decide);have ndD:d9.ownBlock≠some D:=Gv HA3.out.done HD3.out (by decide);have HT4:=zh (Fx HA3.out.told hu4 (fun g hg e=>ntD (by have e2:g=D:=e;rw[hg,e2])));have HO4:=zh (Fx HA3.out.done hu4 (fun g hg e=>ndD (by have e2:g=D:=e;rw[hg,e2])));have hB4:=(hQb _ hQ4).size;have Hu4:=zh hu4;have HD4:=zh hD4;clear hu4 hD4 x0 gz fz ntD ndD hQ3;generalize (w3.setCell ⟨D,0,none⟩ (.slice a3 3 c3))=w4 at*;go_wp2_with (at_builtin;refine KE (z:=tb) rfl _ _ rfl HT4.out (by omega) hB4 rfl rfl (by first|rfl|simp) ?_);intro tv w5 ht5 hu5 hta;have HO5:=zh (Fx HO4.out hu5 (fun g hg e=>HA3.out.apart g e hg));have hQ5:=HQu.out _ _ _ hQ4 hu5 (fun b hb=>(HT4.out.lt b hb).1);have hB5:=(hQb _ hQ5).size;have Ht5:=zh ht5;have Hu5:=zh hu5;have Hta:=zh hta;clear ht5 hu5 hta x1;go_wp2_with (at_builtin;refine Lz (z:=te) rfl _ _ rfl HO5.out (by omega) hB5 rfl rfl (by first|rfl|simp) ?_);intro dv w6 hd6 hu6 hda
 have hQ6:=HQu.out _ _ _ hQ5 hu6 (fun b hb=>(HO5.out.lt b hb).1);have HA6:=zh (show KI x5.heap.size D w6 s (k+1) tv dv from HA3.out.next HV3.out Hu4.out HD4.out Hu5.out (by rw[show(Sv s (k+1)).map Value.bool=(Sv s k).map Value.bool++[.bool tb] from by rw[←htb,Sv,List.map_append];rfl];exact Ht5.out) Hta.out hu6 (by rw[show(Me s (k+1)).map (Value.int .i64)=(Me s k).map (Value.int .i64)++[.int .i64 te] from by rw[←hte,Me,List.map_append];rfl];exact hd6) hda);go_wp2_with fail;go_roundw
 case rel=>exact⟨k+1,_,_,by omega,by go_num,rfl,rfl,hQ6,HA6⟩
 case measure=>simp[intOf];omega
variable [Ghost]
theorem Rx {l:List Am} {a:Ac} (hc:BC l):QV l a=Dt l a∧QW l a=Ih l a∧Wj l a=JK l a:=by
 have h:=Em.2 hc;have e:QV l a=Dt l a:=by unfold QV;rw[if_neg (by simpa using h)]
 exact⟨e,by unfold QW Ih;rw[e],by unfold Wj JK;rw[e]⟩
theorem Ry {l:List Am} {a:Ac} (h:Bp l≠0):QV l a=Bp l∧QW l a=[]∧Wj l a=false:=by
 have e:QV l a=Bp l:=by unfold QV;rw[if_pos h]
 exact⟨e,by unfold QW;rw[e,if_neg h],by unfold Wj;rw[e,if_neg h]⟩
theorem Ns (l:List Am) (e:Int) (h:e≠0→l=[]):LP l e e l=true:=by
 unfold LP;by_cases h0:e=0
 ·rw[if_pos h0,beq_self_eq_true,Bool.true_and];exact(Cq _ _).2 rfl
 ·rw[if_neg h0,beq_self_eq_true,Bool.true_and,h h0];exact(Cq _ _).2 rfl
theorem Xk {l:List Am} {a:Ac} (h:Dt l a≠0):Ih l a=[]:=by unfold Ih;rw[if_neg h]
theorem Yp (l:List Am) (a:Ac):LP (QW l a) (QV l a) (if Bp l=0 then Dt l a else Bp l) (if Bp l=0 then Ih l a else[])=true∧Wj l a=(if Bp l=0 then JK l a else false):=by
 by_cases h:Bp l=0
 ·obtain⟨h1,h2,h3⟩:=Rx (a:=a) (Em.1 h)
  rw[if_pos h,if_pos h,if_pos h,h1,h2,h3];exact⟨Ns _ _ fun h0=>Xk h0,rfl⟩
 ·obtain⟨h1,h2,h3⟩:=Ry (a:=a) h
  rw[if_neg h,if_neg h,if_neg h,h1,h2,h3];exact⟨Ns _ _ fun _=>rfl,rfl⟩
end Go.Proofs.YtgbnlmplkealdaaGreatDoor
