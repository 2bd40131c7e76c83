
/- RestB: clusters and rows of truths that can be spoilt. -/
import Derived.Test.YtgbnlmplkealdaaGreatDoorC34
set_option linter.all false
set_option maxHeartbeats 16000000
set_option maxRecDepth 100000
namespace Go.Proofs.YtgbnlmplkealdaaGreatDoor
open Go.RowKit
variable [Ghost]
def YE (N:Nat) (w:World) (b off:Nat):Prop:=
 ∃sa sn sc ra rn rc g ph oa on oc ua un uc f,(w.cell? ⟨b,off,none⟩=some (.slice sa sn sc)∧w.cell? ⟨b,off+1,none⟩=some (.slice ra rn rc)∧w.cell? ⟨b,off+2,none⟩=some (.int .i64 g)∧w.cell? ⟨b,off+3,none⟩=some (.int .i64 ph)∧
   w.cell? ⟨b,off+4,none⟩=some (.slice oa on oc)∧w.cell? ⟨b,off+5,none⟩=some (.slice ua un uc)∧w.cell? ⟨b,off+6,none⟩=some (.bool f))∧
  (sn≤1000000000000000000∧rn≤1000000000000000000∧on≤1000000000000000000∧un≤1000000000000000000)∧Qe N w sa sn∧JO N w ra rn 2 0∧Qe N w oa on∧JO N w ua un 3 0
def Wz (N:Nat) (w:World) (a:Option Addr) (n:Nat):Prop:=0<n→∃b off,a=some ⟨b,off,none⟩∧∀i,i<n→YE N w b (off+i*7)
def Ui (N:Nat) (w:World) (a:Option Addr) (n:Nat):Prop:=0<n→∃b off,a=some ⟨b,off,none⟩∧N≤b∧∀i,i<n→w.frozen? ⟨b,off+i,none⟩=false∧∃t,w.cell? ⟨b,off+i,none⟩=some (.bool t)
theorem JJ.boolV {b:Bool} {u:Value} (h:JJ (.bool b) u):∃t,u=.bool t:=by
 rcases h with rfl|⟨_,_,e,_⟩|⟨_,_,e,_⟩|⟨_,t,_,rfl⟩
 ·exact⟨_,rfl⟩
 ·cases e
 ·cases e
 ·exact⟨_,rfl⟩
theorem YE.spl {N b off:Nat} {w w':World} (h:YE N w b off) (hs:FX N w w'):YE N w' b off:=by
 obtain⟨sa,sn,sc,ra,rn,rc,g,ph,oa,on,oc,ua,un,uc,f,⟨c0,c1,c2,c3,c4,c5,c6⟩,hb,h1,h2,h3,h4⟩:=h;obtain⟨u2,e2,k2⟩:=hs.cell _ _ _ c2;obtain⟨u3,e3,k3⟩:=hs.cell _ _ _ c3;obtain⟨u6,e6,k6⟩:=hs.cell _ _ _ c6;obtain⟨g',rfl⟩:=k2.int;obtain⟨p',rfl⟩:=k3.int;obtain⟨f',rfl⟩:=k6.boolV;exact⟨sa,sn,sc,ra,rn,rc,g',p',oa,on,oc,ua,un,uc,f',⟨hs.slice c0,hs.slice c1,e2,e3,hs.slice c4,hs.slice c5,e6⟩,hb,h1.spl hs,h2.spl hs,h3.spl hs,h4.spl hs⟩
theorem Wz.spl {N n:Nat} {w w':World} {a:Option Addr} (h:Wz N w a n) (hs:FX N w w'):Wz N w' a n:=fun hn=>
 let⟨b,off,e,hc⟩:=h hn;⟨b,off,e,fun i hi=>(hc i hi).spl hs⟩
theorem Ui.spl {N n:Nat} {w w':World} {a:Option Addr} (h:Ui N w a n) (hs:FX N w w'):Ui N w' a n:=fun hn=>by
 obtain⟨b,off,e,hb,hc⟩:=h hn;refine⟨b,off,e,hb,fun i hi=>?_⟩;obtain⟨h1,s,h2⟩:=hc i hi;obtain⟨u,hu,hk⟩:=hs.cell _ _ _ h2;obtain⟨t,rfl⟩:=hk.boolV;exact⟨(hs.frz _ _ (World.block_lt_of_cell? w _ h2)).trans h1,t,hu⟩
theorem QJ {S:Nat→Prop} {N n c:Nat} {w:World} {a:Option Addr} {l:List Am} (h:Az S w (.slice a n c) l) (hS:∀b,S b→N≤b) (hg:∀b,Ghost.frz b→b<N):Wz N w a n∧n≤1000000000000000000:=by
 obtain⟨a',n',c',fr,HN,e,_,_,h3,h4,h5⟩:=h.open;cases e;refine⟨fun hn=>?_,by omega⟩;obtain⟨b,off,ha,_,k0,k1,k2,k3,k4,k5,k6⟩:=h4 hn;refine⟨b,off,ha,fun i hi=>?_⟩;have hr:=h5 i hi;exact⟨_,_,_,_,_,_,_,_,_,_,_,_,_,_,_,⟨k0 i w hi (Below.refl _ _),k1 i w hi (Below.refl _ _),k2 i w hi (Below.refl _ _),k3 i w hi (Below.refl _ _),k4 i w hi (Below.refl _ _),k5 i w hi (Below.refl _ _),k6 i w hi (Below.refl _ _)⟩,
  ⟨by have:=hr.store.bytes;omega,by have:=hr.refs.bytes;omega,by have:=hr.objs.bytes;omega,by have:=hr.upds.bytes;omega⟩,UC hr.store hS hg,TI hr.refs hS hg,UC hr.objs hS hg,Vu hr.upds hS hg⟩
theorem WT {N B n c:Nat} {w:World} {e:TypeId} {a:Option Addr} {xs:List Bool} (h:w.ownsRow B e 1 (.slice a n c) n (xs.map .bool)) (hB:N≤B):Ui N w a n:=fun hn=>by
 have hl:xs.length=n:=by simpa using h.1
 rcases h.2 with⟨e0,rfl⟩|⟨g,cap,cur,e1,hg,hh,r⟩
 ·exact absurd hn (Nat.lt_irrefl 0)
 ·cases e1
  refine⟨g,0,rfl,Nat.le_trans hB hg,fun i hi=>⟨?_,xs[i]'(by omega),?_⟩⟩
  ·rw[Nat.zero_add];exact Ad hh
  ·rw[Nat.zero_add]
   have:=h.cells (g:=g) rfl i (.bool (xs[i]'(by omega))) (by rw[List.getElem?_map,List.getElem?_eq_getElem (by omega)];rfl);by_cases h0:i=0
   ·subst h0;exact this
   ·simpa[Addr.add,h0] using this
theorem WC {S:Nat→Prop} (w:World) (a:Ac) (x:AV) (t:TypeId) (h:DC S w a x.o x.u):
  GD (fun b=>S b∨b=w.heap.size) (w.alloc (.cells (ZD a x).toArray t)) (.slice (some ⟨w.heap.size,0,none⟩) 1 1) [a]:=by
 refine⟨fun _=>x,⟨some ⟨w.heap.size,0,none⟩,1,rfl,Nat.le_refl _,by omega,by simp,fun _=>⟨w.heap.size,0,rfl,⟨.inr rfl,MX.of_block (heap_alloc_new w _)⟩,fun i hi j u hu=>?_⟩⟩,fun i hi=>?_⟩
 ·obtain rfl:i=0:=by simp at hi;omega
  refine Aa (heap_alloc_new w _) ?_;have hu':(ZD a x)[j]?=some u:=hu;simpa using hu'
 ·obtain rfl:i=0:=by simp at hi;omega
  have hb:=(Below.refl w.heap.size w).alloc (Nat.le_refl _) (.cells (ZD a x).toArray t);exact⟨(h.objs.below hb).weaken fun _ h=>.inl h,(h.upds.below hb).weaken fun _ h=>.inl h,h.kind,h.on,h.up,h.late⟩
variable [Ghost]
theorem Vo {T:Nat→Prop} {w w':World} {v:Value} {xs:List Int} {N:Nat} (h:Bb (fun b=>N≤b∧b<w.heap.size) w v xs) (hu:AK T w w') (hT:∀b,(N≤b∧b<w.heap.size)→¬T b):Bb (fun b=>N≤b∧b<w'.heap.size) w' v xs:=
 (h.same fun b hb=>hu.block b hb.2 (hT b hb)).weaken fun b hb=>⟨hb.1,Nat.lt_of_lt_of_le hb.2 hu.size⟩
theorem IG (l:List Obj) (lv:Value) (S:Nat→Prop) (w:World) (h:Ai S w lv l):
  Calls Tryz.prog 30 #[lv] w fun e w'=>∃v,e=.returned v∧Ai (fun b=>w.heap.size≤b) w' v l∧Below w.heap.size w w':=by
 have h':=h;obtain⟨a,n,cap,la,ln,lc,HN,rfl,h1,h2,h3,h4,h5⟩:=h.open;have HR0:=zh (show IN l n=l by unfold IN;rw[HN.out.1];exact List.take_length);clear h4 h5 h;obtain⟨R,hR,hR1,hRall⟩:=Av w;have hRb:=hR.below;have hRn:=hR.next
 go_enter Tryz.func30, Tryz.ntmps30
 go_wp2_with fail;go_loopw [3,4] (fun v i wr=>∃k:Nat,k≤n∧i=.int .i64 k∧Hid (El w.heap.size wr v (IN l k))∧In R wr) (fun _ i _=>n-(intOf i).toNat)
 case atStart=>exact⟨0,by omega,rfl,⟨fun _=>False,⟨fun _=>.nilFunc,fun _ h=>h.elim,World.ownsRow_nil _ _ _ _,fun i hi=>by simp[IN] at hi⟩,fun _ h=>h.elim⟩,hR1⟩
 obtain⟨k,hk,rfl,HG,hRw⟩:=hrel;clear hR1;by_cases hlt:k<n
 case neg=>
  obtain rfl:k=n:=by omega
  obtain⟨va,vc,hvs⟩:=HG.out.gath.shape;have HSt:=zh (HG.out.store (by rw[HR0.out,←HN.out.1];omega));subst hvs;have HE:=zh (hRb _ hRw);go_wp2_with fail;go_ret;exact⟨_,rfl,by have:=HSt.out;rw[HR0.out] at this⊢;exact this,HE.out⟩
 obtain⟨a5,n5,c5,la5,ln5,lc5,HN5,e5,_,_,_,h45,h55⟩:=h'.open;cases e5;obtain⟨b,off,rfl,hb,k0,k1,k2,k3⟩:=h45 (by omega);have x0:=k0 k wr hlt (hRb _ hRw);have x1:=k1 k wr hlt (hRb _ hRw);have x2:=k2 k wr hlt (hRb _ hRw);have x3:=k3 k wr hlt (hRb _ hRw);have Ho:=zh (h55 k hlt);clear h45 h55 k0 k1 k2 k3 HN5;have hi1:=zk k;have hi2:(k:Int)<(n:Int):=by omega
 obtain⟨va,vc,hvs⟩:=HG.out.gath.shape;subst hvs;have hRB:=hR.alloc _ (.cells #[.int .i64 (obj l k).id,.int .i64 (obj l k).kind,.slice (la5 k) (ln5 k) (lc5 k),.string (obj l k).text] 96) hRw;have HX:=zh (heap_alloc_new wr (.cells #[.int .i64 (obj l k).id,.int .i64 (obj l k).kind,.slice (la5 k) (ln5 k) (lc5 k),.string (obj l k).text] 96));obtain⟨S0,hG0,hB0⟩:=HG.out;have HS0:=zh (fun b (hb:S0 b)=>(show b<wr.heap.size from by obtain⟨_,g1,_⟩:=hG0;exact(g1 b hb).1));have HB0:=zh hB0;have HGx:=zh (hG0.below ((Below.refl _ _).alloc (Nat.le_refl _) (.cells #[.int .i64 (obj l k).id,.int .i64 (obj l k).kind,.slice (la5 k) (ln5 k) (lc5 k),.string (obj l k).text] 96)));have hRw0:=(hRb _ hRw).size;clear hG0 hB0;have hzx:(wr.alloc (.cells #[.int .i64 (obj l k).id,.int .i64 (obj l k).kind,.slice (la5 k) (ln5 k) (lc5 k),.string (obj l k).text] 96)).heap.size=wr.heap.size+1:=by simp
 have hown:(Value.slice va (IN l k).length vc).ownBlock≠some wr.heap.size:=fun e=>by have:=(HG.out.gath.block e).2;omega
 go_upto_region 6 with fail;clear x0 x1 x2 x3;generalize wr.alloc (.cells #[.int .i64 (obj l k).id,.int .i64 (obj l k).kind,.slice (la5 k) (ln5 k) (lc5 k),.string (obj l k).text] 96)=y1 at*;clear HG;generalize hD:wr.heap.size=D at*;obtain⟨v2,y2,hap,⟨q2,n2,c2,rfl⟩,hI2,hb2⟩:=KM 94 (Ho.out.1.below (hRb _ hRB));obtain⟨⟨q3,c3⟩,e3⟩:=hI2.shape;cases e3;have hR2:=hRn _ _ hRB hb2;have HX2:=zh (Ab HX.out hb2);have HG2:=zh (HGx.out.below hb2);have HI2:=zh hI2.lt;rw[hzx] at hap;have Hap:=zh hap;have hy2:=hb2.size;have hR2s:=(hRb _ hR2).size;clear hI2 hap hb2;have z2:=Aa (j:=2) (show(y1.alloc (.cells #[] 3)).heap[D]?=_ from(Below.heap_alloc _ _ _ (lt_of_block HX.out)).trans HX.out) rfl;have g2:=Aa (j:=2) HX2.out rfl;have f2:=Ad (j:=2) HX2.out;have hu3:=su D 2 y2 (.slice q3 (obj l k).links.length c3);have hX3:(y2.setCell ⟨D,2,none⟩ (.slice q3 (obj l k).links.length c3)).heap[D]?=some (.cells #[.int .i64 (obj l k).id,.int .i64 (obj l k).kind,(.slice q3 (obj l k).links.length c3),.string (obj l k).text] 96 (0,0)):=Ah (j:=2) HX2.out _;have HG3:=zh (HG2.out.upd hu3 (fun b hb e=>by have e2:b=D:=e;have:=HS0.out b hb;omega) (fun g hg e=>hown (by rw[hg];exact congrArg some e)));have HI3:=zh (show Bu (fun b=>y1.heap.size≤b∧b<(y2.setCell ⟨D,2,none⟩ (.slice q3 (obj l k).links.length c3)).heap.size) (y2.setCell ⟨D,2,none⟩ (.slice q3 (obj l k).links.length c3)) (obj l k) (.slice q3 (obj l k).links.length c3) from⟨Vo HI2.out hu3 (fun b hb e=>by have e2:b=D:=e;omega),Ho.out.2⟩)
 have hB3:=(hRb _ hR2).trans (hu3.below (B:=w.heap.size) hR2s (fun b hb=>by have e2:b=D:=hb;omega));have hR3:=hRall _ hB3;have HX3:=zh hX3;have hz3:=hu3.size;clear hX3;go_upto_region 7 with(at_builtin;refine AY rfl (.tmp 16) (.tmp 18) 94 rfl _ _ _ rfl rfl Hap.out ?_);clear z2 g2 f2 hB3;generalize y2.setCell ⟨D,2,none⟩ (.slice q3 (obj l k).links.length c3)=y3 at*;obtain⟨o0,o1,o2,o3⟩:=bc4 HX3.out;have hpl:=MK l k;have hR3s:=(hRb _ hR3).size;have Hsep:=zh (show∀b,(y1.heap.size≤b∧b<y3.heap.size)→b<y3.heap.size∧(Value.slice va (IN l k).length vc).ownBlock≠some b from
  fun b hb=>⟨hb.2,fun e=>by have:=(HGx.out.gath.block e).2;omega⟩)
 go_wp2_with (at_builtin;refine Dq rfl _ _ rfl HG3.out HI3.out rfl Hsep.out (by omega) hR3s rfl rfl (by first|rfl|simp) ?_);intro v' w5 hG5 hu5;have hR5:In R w5:=hRall _ ((hRb _ hR3).trans (hu5.below (B:=w.heap.size) hR3s (fun b hb=>(HG3.out.gath.block hb).1)));have HG5:=zh (show El w.heap.size w5 v' (IN l (k+1)) by rw[PW (by rw[←HN.out.1];exact hlt)];exact⟨_,hG5,fun b hb=>by rcases hb with hb|hb;exact HB0.out b hb;have hb1:=hb.1;omega⟩);obtain⟨va',vc',hvs'⟩:=hG5.gath.shape;subst hvs';clear hG5 hu5 o0 o1 o2 o3;go_wp2_with fail;go_roundw
 case rel=>exact⟨k+1,by omega,by go_num,HG5,hR5⟩
 case measure=>simp[intOf];omega
variable [Ghost]
theorem Je (p:BM) (ov uv:Value) (S S1:Nat→Prop) (w:World) (ho:Ai S w ov p.objects) (hu:AJ S1 w uv p.updates):
  Calls Tryz.prog 8 #[.agg #[ov,uv,.bool p.force]] w fun e w'=>∃q u,e=.returned (.agg #[q,u,.bool p.force])∧Ai (fun b=>w.heap.size≤b) w' q p.objects∧AJ (fun b=>w.heap.size≤b) w' u p.updates∧Below w.heap.size w w':=by
 obtain⟨oa,oc,rfl⟩:=ho.vshape;obtain⟨⟨ua,uc⟩,rfl⟩:=hu.shape;have Hby:=zh hu.bytes;obtain⟨Q,hQ,hQ0,hQu0⟩:=EU (w.alloc (.cells #[.slice oa p.objects.length oc,.slice ua p.updates.length uc,.bool p.force] 28));have hQ1:=hQ.alloc _ (.cells #[.slice none 0 0,.slice none 0 0,.bool false] 28) hQ0;have hQb:=hQ.below;have hQn:=hQ.next
 have HQu:=zh hQu0;clear hQu0;have hzw:(w.alloc (.cells #[.slice oa p.objects.length oc,.slice ua p.updates.length uc,.bool p.force] 28)).heap.size=w.heap.size+1:=by simp
 have hbw:Below w.heap.size w (w.alloc (.cells #[.slice oa p.objects.length oc,.slice ua p.updates.length uc,.bool p.force] 28)):=bal;have HX1:=zh (show(w.alloc (.cells #[.slice oa p.objects.length oc,.slice ua p.updates.length uc,.bool p.force] 28)).heap[w.heap.size]?=some (.cells #[.slice oa p.objects.length oc,.slice ua p.updates.length uc,.bool p.force] 28 (0,0)) from heap_alloc_new w _);have HX2:=zh (show((w.alloc (.cells #[.slice oa p.objects.length oc,.slice ua p.updates.length uc,.bool p.force] 28)).alloc (.cells #[.slice none 0 0,.slice none 0 0,.bool false] 28)).heap[w.heap.size+1]?=some (.cells #[.slice none 0 0,.slice none 0 0,.bool false] 28 (0,0)) from by have:=heap_alloc_new (w.alloc (.cells #[.slice oa p.objects.length oc,.slice ua p.updates.length uc,.bool p.force] 28)) (.cells #[.slice none 0 0,.slice none 0 0,.bool false] 28);simpa using this);have HB:=zh (fun x (hx:In Q x)=>hbw.trans ((hQb _ hx).mono (by rw[hzw];omega)));have d0:=fun x (hx:In Q x)=>Ae (hQb _ hx) (Aa (j:=0) HX1.out rfl)
 have d1:=fun x (hx:In Q x)=>Ae (hQb _ hx) (Aa (j:=1) HX1.out rfl)
 have d2:=fun x (hx:In Q x)=>Ae (hQb _ hx) (Aa (j:=2) HX1.out rfl)
 have HCs:=zh (fun x (hx:In Q x)=>IG p.objects _ S x (ho.below (HB.out _ hx)));have HBu:=zh (fun x (hx:In Q x)=>hu.below (HB.out _ hx));clear ho hu;clear hbw
 go_enter Tryz.func8, Tryz.ntmps8
 go_upto_region 1 with fail;have HZ0:=zh (show((w.alloc (.cells #[.slice oa p.objects.length oc,.slice ua p.updates.length uc,.bool p.force] 28)).alloc (.cells #[.slice none 0 0,.slice none 0 0,.bool false] 28)).drew.heap[w.heap.size+1]?=some (.cells #[.slice none 0 0,.slice none 0 0,.bool false] 28 (0,0)) from HX2.out);clear HX1 HX2 hQ0;generalize hw1:((w.alloc (.cells #[.slice oa p.objects.length oc,.slice ua p.updates.length uc,.bool p.force] 28)).alloc (.cells #[.slice none 0 0,.slice none 0 0,.bool false] 28))=w1 at*;clear hw1;refine rh (In Q) ?_;have hC0:=hQ.drew _ hQ1;generalize w1.drew=x0 at hC0 HZ0⊢;refine tk 0 (.pointer (some ⟨w.heap.size,0,none⟩)) (fun w hSw=>?_) hC0 ?_
 ·go_simp
 simp only[tkS];refine tk 1 (.slice oa p.objects.length oc) (fun w hSw=>?_) hC0 ?_
 ·have yy:=d0 _ hSw;go_simp
 simp only[tkS];refine tk 4 (.pointer (some ⟨w.heap.size,1,none⟩)) (fun w hSw=>?_) hC0 ?_
 ·go_simp
 simp only[tkS];refine tk 5 (.slice ua p.updates.length uc) (fun w hSw=>?_) hC0 ?_
 ·have yy:=d1 _ hSw;go_simp
 simp only[tkS];refine tk 7 (.pointer (some ⟨w.heap.size,2,none⟩)) (fun w hSw=>?_) hC0 ?_
 ·go_simp
 simp only[tkS];refine tk 8 (.bool p.force) (fun w hSw=>?_) hC0 ?_
 ·have yy:=d2 _ hSw;go_simp
 simp only[tkS];refine aR #[] 88 (fun D=>.slice (some ⟨D,0,none⟩) 0 0) 3 2 (fun U X=>X.heap[w.heap.size+1]?=some (.cells #[.slice none 0 0,.slice none 0 0,.bool false] 28 (0,0))) hQ hC0 HZ0.out (fun U V X Y hb hw h=>Ab h hb) (fun bb vv E x1 hC1 hd1 hz1=>?_);simp only[tkS];refine Or.inl ?_;have hq1:=lt_of_block hz1;go_wp2_with fail;refine(HCs.out _ hC1).mono ?_;rintro e y1 ⟨q3,rfl,hv3,hb3⟩;obtain⟨a3,c3,rfl⟩:=hv3.vshape;have hC2:=hQn _ _ hC1 hb3;have hd2:=hd1.below hb3;have HF2:=zh (And.intro (Ab hz1 hb3) (hv3.lt.weaken (S':=fun m=>w.heap.size+2≤m∧Gd bb E y1 m) fun m hm=>⟨by omega,hd1.new hm⟩));clear hv3 hb3 hC1 hd1 hz1 hq1 HZ0 hC0;go_simp;refine aF 3 6 (fun U X=>X.heap[w.heap.size+1]?=some (.cells #[.slice none 0 0,.slice none 0 0,.bool false] 28 (0,0))∧Ai (fun m=>w.heap.size+2≤m∧U m) X (.slice a3 p.objects.length c3) p.objects) hQ hC2 hd2 HF2.out (fun U V X Y hb hw h=>⟨Ab h.1 hb,(h.2.below hb).weaken fun m hm=>⟨hm.1,hw m hm.2⟩⟩) (fun E x2 hC2 hE hblk h=>?_);simp only[tkS];refine Or.inl ?_;have HZ2:=zh h.1;have Hv4:=zh h.2;have hE2:w.heap.size+2≤E:=by
  have e:E≠w.heap.size+1:=fun e=>by rw[e,h.1] at hblk;cases hblk
  rw[hzw] at hE;omega
 have HO:=zh (show GE (w.heap.size+2) x2 (.slice (some ⟨E,0,none⟩) 0 0) [] from⟨⟨rfl,.inr ⟨E,0,#[],rfl,hE2,hblk,Nat.le_refl _,Nat.zero_le _,rfl,rfl⟩⟩,fun r h=>by cases h⟩);clear h hblk HF2;have hq2:=lt_of_block HZ2.out;obtain⟨v4,x3,hr4,hO4,hu4⟩:=JP (l:=[]) 26 HO.out (HBu.out _ hC2) (by have:=Hby.out;simp;omega) (show w.heap.size+2≤x2.heap.size by omega);have hC3:=HQu.out _ _ _ hC2 hu4 (fun b hb=>by have:=(HO.out.block hb).1;have:=hzw;omega);have HZ3:=zh (hu4.blk HZ2.out (fun e=>by have:=(HO.out.block e).1;omega));have Hv5:=zh (Hv4.out.upd' hu4 (fun b hb e=>hb.2.2 (by have e2:=e;simp[Value.ownBlock] at e2;omega)));have hz3:=hu4.size;rw[List.nil_append] at hO4;obtain⟨a4,c4,rfl⟩:=hO4.shape;have Hv6:=zh ((hO4.mvs Hby.out).weaken (fun b hb=>(show w.heap.size+2≤b∧b<x3.heap.size from hO4.block hb.2)));clear hO4 hu4;refine Cm (.tmp 6) (.tmp 8) 26 (by rfl) _ _ _ (by rfl) (by rfl) hr4 ?_;simp only[tkS];refine⟨hC3,?_⟩;clear hr4 HO Hv4;refine tk 9 (.agg #[.slice a3 p.objects.length c3,.slice a4 p.updates.length c4,.bool p.force]) (fun w hSw=>?_) hC3 ?_
 ·go_simp
 simp only[tkS];refine al1 10 ?_;refine Or.inl ?_;have hq:=lt_of_block HZ3.out;have hblk:=HZ3.out;obtain⟨g0,g1,g2⟩:=bc3 hblk;obtain⟨f0,f1,f2⟩:=bf3 hblk;have Hb9:=zh (QQ (v0:=.slice a3 p.objects.length c3) (v1:=.slice a4 p.updates.length c4) (v2:=.bool p.force) hblk);have Hu9:=zh (OD (w.heap.size+1) (.slice a3 p.objects.length c3) (.slice a4 p.updates.length c4) (.bool p.force) x3);have HB9:=zh ((HB.out _ hC3).trans (Hu9.out.below (B:=w.heap.size) (by omega) (fun b hb=>by have e2:b=w.heap.size+1:=hb;omega)));have Hw5:=zh ((Hv5.out.upd' Hu9.out (fun b hb e=>by have e2:b=w.heap.size+1:=e;have:=hb.1;omega)).weaken (fun b hb=>(show w.heap.size≤b from by have:=hb.1;omega)));have Hw6:=zh ((Hv6.out.upd Hu9.out (fun b hb e=>by have e2:b=w.heap.size+1:=e;have:=hb.1;omega)).weaken (fun b hb=>(show w.heap.size≤b from by have:=hb.1;omega)));clear hblk hq;have hC9:=HQu.out _ _ _ hC3 Hu9.out (fun b hb=>by have e2:b=w.heap.size+1:=hb;have:=hzw;omega);go_wp2_with fail
 first|refine⟨by kernel_rfl,?_⟩|refine⟨hC9,by kernel_rfl,?_⟩|refine wpAnyH_done (by kernel_rfl) ?_ _|refine⟨hC9,wpAnyH_done (by kernel_rfl) ?_ _⟩|skip
 change Exit.then _ _ _ _ (SB (w.heap.size+1) (.slice a3 p.objects.length c3) (.slice a4 p.updates.length c4) (.bool p.force) x3)
 have hb9:=Hb9.out;generalize (SB (w.heap.size+1) (.slice a3 p.objects.length c3) (.slice a4 p.updates.length c4) (.bool p.force) x3)=x9 at*;clear g0 f0 g1 f1 g2 f2;obtain⟨k0,k1,k2⟩:=bc3 hb9;go_wp2_with fail;refine bodyPost_ret (v:=.agg #[.slice a3 p.objects.length c3,.slice a4 p.updates.length c4,.bool p.force]) (by simp[results,Tryz.results8,go_sem];simp[k0,k1,k2]<;>rfl) rfl ?_;exact⟨_,_,rfl,Hw5.out,Hw6.out,HB9.out⟩
theorem KP (r:Am) (sv rv ov uv:Value) (S:Nat→Prop) (w:World) (h:Ax S w r sv rv ov uv):
  Calls Tryz.prog 7 #[AO r sv rv ov uv] w fun e w'=>∃s q o u,e=.returned (AO r s q o u)∧Ax (fun b=>w.heap.size≤b) w' r s q o u∧Below w.heap.size w w':=by
 obtain⟨sa,sc,rfl⟩:=h.store.vshape;obtain⟨⟨ra,rc⟩,rfl⟩:=h.refs.shape;obtain⟨oa,oc,rfl⟩:=h.objs.vshape;obtain⟨⟨ua,uc⟩,rfl⟩:=h.upds.shape;have H:=zh h;have Hby:=zh h.refs.bytes;obtain⟨Q,hQ,hQ0,hQu0⟩:=EU (w.alloc (.cells #[.slice sa r.store.length sc,.slice ra r.refs.length rc,.int .i64 r.gen,.int .i64 r.phase,.slice oa r.pend.objects.length oc,.slice ua r.pend.updates.length uc,.bool r.pend.force] 34));have hQ1:=hQ.alloc _ (.cells #[.slice none 0 0,.slice none 0 0,.int .i64 0,.int .i64 0,.slice none 0 0,.slice none 0 0,.bool false] 34) hQ0;have hQb:=hQ.below;have hQn:=hQ.next
 have HQu:=zh hQu0;clear hQu0;have hzw:(w.alloc (.cells #[.slice sa r.store.length sc,.slice ra r.refs.length rc,.int .i64 r.gen,.int .i64 r.phase,.slice oa r.pend.objects.length oc,.slice ua r.pend.updates.length uc,.bool r.pend.force] 34)).heap.size=w.heap.size+1:=by simp
 have hbw:Below w.heap.size w (w.alloc (.cells #[.slice sa r.store.length sc,.slice ra r.refs.length rc,.int .i64 r.gen,.int .i64 r.phase,.slice oa r.pend.objects.length oc,.slice ua r.pend.updates.length uc,.bool r.pend.force] 34)):=bal;have HX1:=zh (show(w.alloc (.cells #[.slice sa r.store.length sc,.slice ra r.refs.length rc,.int .i64 r.gen,.int .i64 r.phase,.slice oa r.pend.objects.length oc,.slice ua r.pend.updates.length uc,.bool r.pend.force] 34)).heap[w.heap.size]?=some (.cells #[.slice sa r.store.length sc,.slice ra r.refs.length rc,.int .i64 r.gen,.int .i64 r.phase,.slice oa r.pend.objects.length oc,.slice ua r.pend.updates.length uc,.bool r.pend.force] 34 (0,0)) from heap_alloc_new w _);have HX2:=zh (show((w.alloc (.cells #[.slice sa r.store.length sc,.slice ra r.refs.length rc,.int .i64 r.gen,.int .i64 r.phase,.slice oa r.pend.objects.length oc,.slice ua r.pend.updates.length uc,.bool r.pend.force] 34)).alloc (.cells #[.slice none 0 0,.slice none 0 0,.int .i64 0,.int .i64 0,.slice none 0 0,.slice none 0 0,.bool false] 34)).heap[w.heap.size+1]?=some (.cells #[.slice none 0 0,.slice none 0 0,.int .i64 0,.int .i64 0,.slice none 0 0,.slice none 0 0,.bool false] 34 (0,0)) from by have:=heap_alloc_new (w.alloc (.cells #[.slice sa r.store.length sc,.slice ra r.refs.length rc,.int .i64 r.gen,.int .i64 r.phase,.slice oa r.pend.objects.length oc,.slice ua r.pend.updates.length uc,.bool r.pend.force] 34)) (.cells #[.slice none 0 0,.slice none 0 0,.int .i64 0,.int .i64 0,.slice none 0 0,.slice none 0 0,.bool false] 34);simpa using this)
 have HB:=zh (fun x (hx:In Q x)=>hbw.trans ((hQb _ hx).mono (by rw[hzw];omega)));have d0:=fun x (hx:In Q x)=>Ae (hQb _ hx) (Aa (j:=0) HX1.out rfl)
 have d1:=fun x (hx:In Q x)=>Ae (hQb _ hx) (Aa (j:=1) HX1.out rfl)
 have d2:=fun x (hx:In Q x)=>Ae (hQb _ hx) (Aa (j:=2) HX1.out rfl)
 have d3:=fun x (hx:In Q x)=>Ae (hQb _ hx) (Aa (j:=3) HX1.out rfl)
 have d4:=fun x (hx:In Q x)=>Ae (hQb _ hx) (Aa (j:=4) HX1.out rfl)
 have d5:=fun x (hx:In Q x)=>Ae (hQb _ hx) (Aa (j:=5) HX1.out rfl)
 have d6:=fun x (hx:In Q x)=>Ae (hQb _ hx) (Aa (j:=6) HX1.out rfl)
 have HCs:=zh (fun x (hx:In Q x)=>IG r.store _ S x (H.out.store.below (HB.out _ hx)));have HBu:=zh (fun x (hx:In Q x)=>H.out.refs.below (HB.out _ hx));have HCp:=zh (fun x (hx:In Q x)=>Je r.pend _ _ S S x (H.out.objs.below (HB.out _ hx)) (H.out.upds.below (HB.out _ hx)));clear h;clear hbw;simp only[AO]
 go_enter Tryz.func7, Tryz.ntmps7
 go_upto_region 1 with fail;have HZ0:=zh (show((w.alloc (.cells #[.slice sa r.store.length sc,.slice ra r.refs.length rc,.int .i64 r.gen,.int .i64 r.phase,.slice oa r.pend.objects.length oc,.slice ua r.pend.updates.length uc,.bool r.pend.force] 34)).alloc (.cells #[.slice none 0 0,.slice none 0 0,.int .i64 0,.int .i64 0,.slice none 0 0,.slice none 0 0,.bool false] 34)).drew.heap[w.heap.size+1]?=some (.cells #[.slice none 0 0,.slice none 0 0,.int .i64 0,.int .i64 0,.slice none 0 0,.slice none 0 0,.bool false] 34 (0,0)) from HX2.out);clear HX1 HX2 hQ0;generalize hw1:((w.alloc (.cells #[.slice sa r.store.length sc,.slice ra r.refs.length rc,.int .i64 r.gen,.int .i64 r.phase,.slice oa r.pend.objects.length oc,.slice ua r.pend.updates.length uc,.bool r.pend.force] 34)).alloc (.cells #[.slice none 0 0,.slice none 0 0,.int .i64 0,.int .i64 0,.slice none 0 0,.slice none 0 0,.bool false] 34))=w1 at*;clear hw1;refine rh (In Q) ?_;have hC0:=hQ.drew _ hQ1;generalize w1.drew=x0 at hC0 HZ0⊢;refine tk 0 (.pointer (some ⟨w.heap.size,0,none⟩)) (fun w hSw=>?_) hC0 ?_
 ·go_simp
 simp only[tkS];refine tk 1 (.slice sa r.store.length sc) (fun w hSw=>?_) hC0 ?_
 ·have yy:=d0 _ hSw;go_simp
 simp only[tkS];refine tk 4 (.pointer (some ⟨w.heap.size,1,none⟩)) (fun w hSw=>?_) hC0 ?_
 ·go_simp
 simp only[tkS];refine tk 5 (.slice ra r.refs.length rc) (fun w hSw=>?_) hC0 ?_
 ·have yy:=d1 _ hSw;go_simp
 simp only[tkS];refine tk 7 (.pointer (some ⟨w.heap.size,2,none⟩)) (fun w hSw=>?_) hC0 ?_
 ·go_simp
 simp only[tkS];refine tk 8 (.int .i64 r.gen) (fun w hSw=>?_) hC0 ?_
 ·have yy:=d2 _ hSw;go_simp
 simp only[tkS];refine tk 9 (.pointer (some ⟨w.heap.size,3,none⟩)) (fun w hSw=>?_) hC0 ?_
 ·go_simp
 simp only[tkS];refine tk 10 (.int .i64 r.phase) (fun w hSw=>?_) hC0 ?_
 ·have yy:=d3 _ hSw;go_simp
 simp only[tkS];refine tk 11 (.pointer (some ⟨w.heap.size,4,none⟩)) (fun w hSw=>?_) hC0 ?_
 ·go_simp
 simp only[tkS];refine tk 12 (.agg #[.slice oa r.pend.objects.length oc,.slice ua r.pend.updates.length uc,.bool r.pend.force]) (fun w hSw=>?_) hC0 ?_
 ·have y4:=d4 _ hSw;have y5:=d5 _ hSw;have y6:=d6 _ hSw;go_simp
 simp only[tkS];refine aR #[] 86 (fun D=>.slice (some ⟨D,0,none⟩) 0 0) 3 2 (fun U X=>X.heap[w.heap.size+1]?=some (.cells #[.slice none 0 0,.slice none 0 0,.int .i64 0,.int .i64 0,.slice none 0 0,.slice none 0 0,.bool false] 34 (0,0))) hQ hC0 HZ0.out (fun U V X Y hb hw h=>Ab h hb) (fun bb vv E x1 hC1 hd1 hz1=>?_);simp only[tkS];refine Or.inl ?_;have hq1:=lt_of_block hz1;go_wp2_with fail;refine(HCs.out _ hC1).mono ?_;rintro e y1 ⟨q3,rfl,hv3,hb3⟩;obtain⟨a3,c3,rfl⟩:=hv3.vshape;have hC2:=hQn _ _ hC1 hb3;have hd2:=hd1.below hb3;have HF2:=zh (And.intro (Ab hz1 hb3) (hv3.lt.weaken (S':=fun m=>w.heap.size+2≤m∧Gd bb E y1 m) fun m hm=>⟨by omega,hd1.new hm⟩));clear hv3 hb3 hC1 hd1 hz1 hq1 HZ0 hC0;go_simp;refine aF 3 6 (fun U X=>X.heap[w.heap.size+1]?=some (.cells #[.slice none 0 0,.slice none 0 0,.int .i64 0,.int .i64 0,.slice none 0 0,.slice none 0 0,.bool false] 34 (0,0))∧Ai (fun m=>w.heap.size+2≤m∧U m) X (.slice a3 r.store.length c3) r.store) hQ hC2 hd2 HF2.out (fun U V X Y hb hw h=>⟨Ab h.1 hb,(h.2.below hb).weaken fun m hm=>⟨hm.1,hw m hm.2⟩⟩) (fun E x2 hC2 hE hblk h=>?_);simp only[tkS];refine Or.inl ?_;have HZ2:=zh h.1;have Hv4:=zh h.2;have hE2:w.heap.size+2≤E:=by
  have e:E≠w.heap.size+1:=fun e=>by rw[e,h.1] at hblk;cases hblk
  rw[hzw] at hE;omega
 have HO:=zh (show Dr (w.heap.size+2) x2 (.slice (some ⟨E,0,none⟩) 0 0) [] from⟨⟨rfl,.inr ⟨E,0,#[],rfl,hE2,hblk,Nat.le_refl _,Nat.zero_le _,rfl,rfl⟩⟩,fun r h=>by cases h⟩);clear h hblk HF2;have hq2:=lt_of_block HZ2.out;obtain⟨v4,x3,hr4,hO4,hu4⟩:=IU (l:=[]) 32 HO.out (HBu.out _ hC2) (by have:=Hby.out;simp;omega) (show w.heap.size+2≤x2.heap.size by omega);have hC3:=HQu.out _ _ _ hC2 hu4 (fun b hb=>by have:=(HO.out.block hb).1;have:=hzw;omega);have HZ3:=zh (hu4.blk HZ2.out (fun e=>by have:=(HO.out.block e).1;omega));have Hv5:=zh (Hv4.out.upd' hu4 (fun b hb e=>hb.2.2 (by have e2:=e;simp[Value.ownBlock] at e2;omega)));have hz3:=hu4.size;rw[List.nil_append] at hO4;obtain⟨a4,c4,rfl⟩:=hO4.shape;have Hv6:=zh ((hO4.refs Hby.out).weaken (fun b hb=>(show w.heap.size+2≤b∧b<x3.heap.size from hO4.block hb.2)));clear hO4 hu4;refine Cm (.tmp 6) (.tmp 8) 32 (by rfl) _ _ _ (by rfl) (by rfl) hr4 ?_;simp only[tkS];refine⟨hC3,?_⟩;clear hr4 HO Hv4;refine al1 13 ?_;refine Or.inl ?_;have hp3:=HCp.out _ hC3;go_wp2_with fail;refine hp3.mono ?_;rintro e x4 ⟨q7,u7,rfl,hv7,hv8,hb7⟩;obtain⟨a7,c7,rfl⟩:=hv7.vshape;obtain⟨⟨a8,c8⟩,rfl⟩:=hv8.shape;have hC4:=hQn _ _ hC3 hb7;have hq3:=lt_of_block HZ3.out;have HZ4:=zh (Ab HZ3.out hb7);have hz4:=hb7.size;have Hv7:=zh (show Ai (fun b=>w.heap.size+2≤b) x4 _ _ from hv7.weaken fun b hb=>by omega);have Hv8:=zh (show AJ (fun b=>w.heap.size+2≤b) x4 _ _ from hv8.weaken fun b hb=>by omega);replace Hv5:=zh (Hv5.out.below hb7);replace Hv6:=zh (Hv6.out.below hb7)
 clear hv7 hv8 hb7 hp3;go_simp;refine tk 14 (.agg #[.slice a3 r.store.length c3,.slice a4 r.refs.length c4,.int .i64 r.gen,.int .i64 r.phase,.slice a7 r.pend.objects.length c7,.slice a8 r.pend.updates.length c8,.bool r.pend.force]) (fun w hSw=>?_) hC4 ?_
 ·go_simp
 simp only[tkS];refine al1 15 ?_;refine Or.inl ?_;have hq:=lt_of_block HZ4.out;have hblk:=HZ4.out;obtain⟨g0,g1,g2,g3,g4,g5,g6⟩:=bc7 hblk;obtain⟨f0,f1,f2,f3,f4,f5,f6⟩:=bf7 hblk;have Hb9:=zh (AZ (v0:=.slice a3 r.store.length c3) (v1:=.slice a4 r.refs.length c4) (v2:=.int .i64 r.gen) (v3:=.int .i64 r.phase) (v4:=.slice a7 r.pend.objects.length c7) (v5:=.slice a8 r.pend.updates.length c8) (v6:=.bool r.pend.force) hblk);have Hu9:=zh (AM (w.heap.size+1) (.slice a3 r.store.length c3) (.slice a4 r.refs.length c4) (.int .i64 r.gen) (.int .i64 r.phase) (.slice a7 r.pend.objects.length c7) (.slice a8 r.pend.updates.length c8) (.bool r.pend.force) x4);have HB9:=zh ((HB.out _ hC4).trans (Hu9.out.below (B:=w.heap.size) (by omega) (fun b hb=>by have e2:b=w.heap.size+1:=hb;omega)));have Hw5:=zh ((Hv5.out.upd' Hu9.out (fun b hb e=>by have e2:b=w.heap.size+1:=e;have:=hb.1;omega)).weaken (fun b hb=>(show w.heap.size≤b from by have:=hb.1;omega)));have Hw6:=zh ((Hv6.out.upd Hu9.out (fun b hb e=>by have e2:b=w.heap.size+1:=e;have:=hb.1;omega)).weaken (fun b hb=>(show w.heap.size≤b from by have:=hb.1;omega)));have Hw7:=zh ((Hv7.out.upd' Hu9.out (fun b hb e=>by have e2:b=w.heap.size+1:=e;omega)).weaken (fun b hb=>(show w.heap.size≤b from by omega)));have Hw8:=zh ((Hv8.out.upd Hu9.out (fun b hb e=>by have e2:b=w.heap.size+1:=e;omega)).weaken (fun b hb=>(show w.heap.size≤b from by omega)));clear hblk hq;have hC9:=HQu.out _ _ _ hC4 Hu9.out (fun b hb=>by have e2:b=w.heap.size+1:=hb;have:=hzw;omega);go_wp2_with fail
 first|refine⟨by kernel_rfl,?_⟩|refine⟨hC9,by kernel_rfl,?_⟩|refine wpAnyH_done (by kernel_rfl) ?_ _|refine⟨hC9,wpAnyH_done (by kernel_rfl) ?_ _⟩|skip
 change Exit.then _ _ _ _ (Bg (w.heap.size+1) (.slice a3 r.store.length c3) (.slice a4 r.refs.length c4) (.int .i64 r.gen) (.int .i64 r.phase) (.slice a7 r.pend.objects.length c7) (.slice a8 r.pend.updates.length c8) (.bool r.pend.force) x4)
 have hb9:=Hb9.out;generalize (Bg (w.heap.size+1) (.slice a3 r.store.length c3) (.slice a4 r.refs.length c4) (.int .i64 r.gen) (.int .i64 r.phase) (.slice a7 r.pend.objects.length c7) (.slice a8 r.pend.updates.length c8) (.bool r.pend.force) x4)=x9 at*;clear g0 f0 g1 f1 g2 f2 g3 f3 g4 f4 g5 f5 g6 f6;obtain⟨k0,k1,k2,k3,k4,k5,k6⟩:=bc7 hb9;go_wp2_with fail;refine bodyPost_ret (v:=.agg #[.slice a3 r.store.length c3,.slice a4 r.refs.length c4,.int .i64 r.gen,.int .i64 r.phase,.slice a7 r.pend.objects.length c7,.slice a8 r.pend.updates.length c8,.bool r.pend.force]) (by simp[results,Tryz.results7,go_sem];simp[k0,k1,k2,k3,k4,k5,k6]<;>rfl) rfl ?_;exact⟨_,_,_,_,rfl,⟨Hw5.out,Hw6.out,Hw7.out,Hw8.out,H.out.gen,H.out.phase⟩,HB9.out⟩
variable [Ghost]
def Xo:ByteArray:=⟨#[61]⟩
def QP:ByteArray:=⟨#[59]⟩
def Xc:ByteArray:=⟨#[58]⟩
def UF (x:Rf):ByteArray:=x.name++Xo++Bl x.id++QP
def FU (l:List Rf) (s:ByteArray):Nat→ByteArray
 |0=>s
 |k+1=>FU l s k++UF (rf l k)
def Yk (r:Am):ByteArray:=FU r.refs (Bl r.gen++Xc) r.refs.length
def Yj (l:List Am):ByteArray:=if Bp l=0 then Yk (Ag l (BS l)) else⟨#[]⟩
theorem Yb {r:Am} (h:Cx r) {k:Nat} (hk:k<r.refs.length):(0≤(rf r.refs k).id∧(rf r.refs k).id≤999)∧(rf r.refs k).name.size≤12∧r.refs.length≤8:=by
 obtain⟨h1,h2⟩:=Bz.1 h.refs;have h3:=h2.commit k hk;obtain⟨j,hj,hid,_⟩:=FM (l:=r.store) (id:=(rf r.refs k).id) (by rw[h3];decide);have h4:=Fb ((GR h1).each j hj);exact⟨by omega,GQ (h2.name k hk),h2.many⟩
theorem MJ {r:Am} (h:Cx r) {s:ByteArray} (hs:s.size≤100):∀k,k≤r.refs.length→(FU r.refs s k).size≤100+40*k
 |0,_=>by show s.size≤_;omega
 |k+1,hk=>by
  have ih:=MJ h hs k (by omega);obtain⟨h1,h2,_⟩:=Yb h (k:=k) (by omega);have h3:=En h1.1 h1.2;have e1:Xo.size=1:=by decide+kernel
  have e2:QP.size=1:=by decide+kernel
  unfold FU UF;rw[ByteArray.size_append,ByteArray.size_append,ByteArray.size_append,ByteArray.size_append];omega
theorem Qn (l:List Am) (cv:Value) (S:Nat→Prop) (w:World) (h:Az S w cv l) (ht:Qf w):
  Calls Tryz.prog 24 #[.agg #[cv]] w fun e w'=>e=.returned (.tuple #[.string (Yj l),.int .i64 (Bp l)])∧Below w.heap.size w w':=by
 have H:=zh h;have HTw:=zh ht;have HS:=zh (show Yj l=if Bp l=0 then Yk (Ag l (BS l)) else⟨#[]⟩ from rfl);have Hnw:=zh (show XO l=if Bp l=0 then(BS l:Int) else 0 from rfl);obtain⟨a,n,cap,fr,HN,rfl,_,_,_,h4,h5⟩:=h.open;obtain⟨R,hR,hR1,HB0⟩:=AF w [.cells #[.slice a n cap] 24];simp only[List.foldl] at hR1;have hRb:=hR.below;have hRn:=hR.next
 have c0:=fun x (hx:In R x)=>Aa (j:=0) (HB0 x hx 0 _ rfl) rfl
 simp only[Nat.add_zero] at c0;clear HB0;have HNw:=zh (fun x (hx:In R x)=>Ky l _ _ x (H.out.below (hRb _ hx)));have cc:=c0 _ hR1;have H4:=zh h4;have H5:=zh h5;clear h ht h4 h5;by_cases hz:Bp l=0
 case neg=>
  rw[if_neg hz] at HS Hnw;rw[Hnw.out] at HNw;have q1:(Bp l !=0)=true:=by simpa using hz
  clear hz Hnw;generalize Bp l=ce at*
  go_enter Tryz.func24, Tryz.ntmps24
  go_wp2_with fail;refine(HNw.out _ hR1).mono ?_;rintro e w1 ⟨rfl,hb1⟩;have hR2:=hRn _ _ hR1 hb1;clear hb1 cc;have HE:=zh (hRb _ hR2);go_wp2_with fail;refine bodyPost_ret (v:=.tuple #[.string ⟨#[]⟩,.int .i64 ce]) (by simp[results,Tryz.results24,go_sem]<;>rfl) rfl ?_;exact⟨by rw[HS.out],HE.out⟩
 have hc:=Em.1 hz;have hl3:=hc.len;obtain rfl:n=3:=HN.out.trans hl3;have hbl:BS l<3:=by have:=GZ (l:=l) (by omega);omega
 rw[if_pos hz] at HS Hnw;rw[Hnw.out,hz] at HNw;rw[hz];have Hr:=zh (hc.each _ hbl);clear hz Hnw hc hl3 HN;generalize hbe:BS l=b at*;clear hbe;obtain⟨b0,off0,rfl,_,k0,k1,k2,k3,k4,k5,k6⟩:=H4.out (by omega);have Hk:=zh (And.intro k0 (And.intro k1 (And.intro k2 (And.intro k3 (And.intro k4 (And.intro k5 k6))))));clear k0 k1 k2 k3 k4 k5 k6 H4;have HRf:=zh (H5.out b hbl).refs;have hi1:=zk b;have hi2:(b:Int)<3:=by omega
 go_enter Tryz.func24, Tryz.ntmps24
 go_wp2_with fail;refine(HNw.out _ hR1).mono ?_;rintro e w1 ⟨rfl,hb1⟩;have hR2:=hRn _ _ hR1 hb1;clear hb1 cc;have cc:=c0 _ hR2;have x0:=Hk.out.1 b w1 hbl (hRb _ hR2);have x1:=Hk.out.2.1 b w1 hbl (hRb _ hR2);have x2:=Hk.out.2.2.1 b w1 hbl (hRb _ hR2);have x3:=Hk.out.2.2.2.1 b w1 hbl (hRb _ hR2);have x4:=Hk.out.2.2.2.2.1 b w1 hbl (hRb _ hR2);have x5:=Hk.out.2.2.2.2.2.1 b w1 hbl (hRb _ hR2);have x6:=Hk.out.2.2.2.2.2.2 b w1 hbl (hRb _ hR2);have hR3:=hR.alloc _ (.cells (c7 (Ag l b) (fr b).sa (fr b).sc (fr b).ra (fr b).rc (fr b).oa (fr b).oc (fr b).ua (fr b).uc) 34) hR2;have HX:=zh (heap_alloc_new w1 (.cells (c7 (Ag l b) (fr b).sa (fr b).sc (fr b).ra (fr b).rc (fr b).oa (fr b).oc (fr b).ua (fr b).uc) 34));have hgen:=Hr.out.gen;have HIt:=zh (fun x (hx:In R x) (n:Int) (hn:0≤n∧n≤999)=>RP n hn.1 hn.2 x (HTw.out.below (hRb _ hx)));have HI0:=zh (HIt.out _ hR3 _ hgen);have hds:=En hgen.1 hgen.2;have hp0:¬9223372036854775807<(Bl (Ag l b).gen).size+1:=by omega
 have e1:Xc.size=1:=by decide+kernel
 have Hds:=zh (show(Bl (Ag l b).gen++Xc).size≤100 from by rw[ByteArray.size_append];omega);clear e1 hgen hds;have HsS:=zh (show Yk (Ag l b)=FU (Ag l b).refs (Bl (Ag l b).gen++Xc) (Ag l b).refs.length from rfl);go_wp2_with fail;refine HI0.out.mono ?_;rintro e w4 ⟨rfl,hb4⟩;have hR4:=hRn _ _ hR3 hb4;replace HX:=zh (Ab HX.out hb4);clear hb4 cc HI0 x0 x1 x2 x3 x4 x5 x6;generalize w1.heap.size=DX at*;have x1:=Aa (j:=1) HX.out rfl;obtain⟨s0,hs0⟩:∃s0,s0=Bl (Ag l b).gen++Xc:=⟨_,rfl⟩;rw[←hs0] at HsS Hds;have Hs0:=zh hs0;go_wp2_with fail;have Hre:=zh (fun k (hk:k<(Ag l b).refs.length)=>Yb Hr.out hk);have Hsz:=zh (fun k (hk:k≤(Ag l b).refs.length)=>MJ Hr.out Hds.out k hk);clear hs0 x1;generalize hrs:(Ag l b).refs=rs at*;clear hrs;obtain⟨T,hT,hT1,_⟩:=Av w4;have hTb:=hT.below;have hTn:=hT.next
 have HTR:=zh (fun x (hx:In T x)=>hRn _ _ hR4 (hTb _ hx));go_loopw [7,30] (fun s i wr=>∃k:Nat,k≤rs.length∧i=.int .i64 k∧s=.string (FU rs s0 k)∧In T wr) (fun _ i _=>rs.length-(intOf i).toNat)
 case atStart=>exact⟨0,Nat.zero_le _,rfl,by rw[show FU rs s0 0=s0 from rfl,Hs0.out];rfl,hT1⟩
 obtain⟨k,hk,rfl,rfl,hTr⟩:=hrel;obtain⟨wo,rfl⟩:∃wo:World,wo=wr:=⟨_,rfl⟩;by_cases hlt:k<rs.length
 case neg=>
  obtain rfl:k=rs.length:=by omega
  have HE:=zh (hRb _ (HTR.out _ hTr));go_wp2_with fail;refine bodyPost_ret (v:=.tuple #[.string (FU rs s0 rs.length),.int .i64 0]) (by simp[results,Tryz.results24,go_sem]<;>rfl) rfl ?_;exact⟨by rw[HS.out,HsS.out],HE.out⟩
 have HnS:=zh (show FU rs s0 (k+1)=FU rs s0 k++((rf rs k).name++Xo++Bl (rf rs k).id++QP) from rfl);obtain⟨hid,hnm,hm8⟩:=Hre.out k hlt;have hsz:=Hsz.out k hk;have hdd:=En hid.1 hid.2;have HI1:=zh (fun x (hx:In T x)=>HIt.out x (HTR.out x hx) _ hid);obtain⟨ar,nr,capr,HNr,er,_,_,hr3,hr4,_⟩:=HRf.out.open;obtain rfl:nr=rs.length:=HNr.out;obtain⟨br,ofr,har,_,hrn,hri⟩:=hr4 (by omega);have hra:(fr b).ra=some ⟨br,ofr,none⟩:=by cases er;exact har
 have y0:=hrn k wo hlt (hRb _ (HTR.out _ hTr));have y1:=hri k wo hlt (hRb _ (HTR.out _ hTr));have hj1:=zk k;have hj2:(k:Int)<(rs.length:Int):=by omega
 generalize FU rs s0 k=s at*;generalize (rf rs k).name=nm at*;generalize (rf rs k).id=id at*;clear er har HNr hrn hri hr3 hr4;have Hra:=zh hra;clear hra;have n1:¬9223372036854775807<nm.size+1:=by omega
 have n2:¬9223372036854775807<nm.size+1+(Bl id).size:=by omega
 have n3:¬9223372036854775807<nm.size+1+(Bl id).size+1:=by omega
 have n4:¬9223372036854775807<s.size+(nm.size+1+(Bl id).size+1):=by omega
 have hTa:=hT.alloc _ (.cells #[.string nm,.int .i64 id] 86) hTr;have HU:=zh (heap_alloc_new wo (.cells #[.string nm,.int .i64 id] 86));rw[Hra.out];go_upto_region 9 with fail;generalize wo.alloc (.cells #[.string nm,.int .i64 id] 86)=wu at*;generalize wo.heap.size=U at*;clear y0 y1;obtain⟨Q,hQ,hQ1,_⟩:=Av wu;have hQb:=hQ.below;have hQn:=hQ.next
 have HQT:=zh (fun x (hx:In Q x)=>hTn _ _ hTa (hQb _ hx));have e0:=fun x (hx:In Q x)=>Aa (j:=0) (Ab HU.out (hQb _ hx)) rfl
 have e1:=fun x (hx:In Q x)=>Aa (j:=1) (Ab HU.out (hQb _ hx)) rfl
 generalize hdi:Bl id=di at*;clear hdi;refine rh (In Q) ?_;have hC0:=hQ.drew _ hQ1;generalize hx0:wu.drew=x0 at hC0⊢;clear hx0;refine tk 0 (.string s) (fun w hSw=>?_) hC0 ?_
 ·go_simp
 simp only[tkS];refine tk 1 (.pointer (some ⟨U,0,none⟩)) (fun w hSw=>?_) hC0 ?_
 ·go_simp
 simp only[tkS];refine tk 2 (.string nm) (fun w hSw=>?_) hC0 ?_
 ·have yy:=e0 _ hSw;go_simp
 simp only[tkS];refine tk 3 (.string (nm++Xo)) (fun w hSw=>?_) hC0 ?_
 ·show _=Result.ok (Next.value (Value.string (nm++(⟨#[61]⟩:ByteArray)))) w;go_simp
 simp only[tkS];refine tk 4 (.pointer (some ⟨U,1,none⟩)) (fun w hSw=>?_) hC0 ?_
 ·go_simp
 simp only[tkS];refine tk 5 (.int .i64 id) (fun w hSw=>?_) hC0 ?_
 ·have yy:=e1 _ hSw;go_simp
 simp only[tkS];refine al1 6 ?_;refine Or.inl ?_;go_wp2_with fail;refine(HI1.out _ (HQT.out _ hC0)).mono ?_;rintro e x1 ⟨rfl,hb0⟩;have hC1:=hQn _ _ hC0 hb0;clear hb0;go_simp;refine tk 7 (.string (nm++Xo++di)) (fun w hSw=>?_) hC1 ?_
 ·have e9:(nm++Xo).size=nm.size+1:=(by rw[ByteArray.size_append];rfl);go_simp
 simp only[tkS];refine tk 8 (.string (nm++Xo++di++QP)) (fun w hSw=>?_) hC1 ?_
 ·have e7:(⟨#[59]⟩:ByteArray)=QP:=rfl;have e8:QP.size=1:=(by decide+kernel);have e9:(nm++Xo++di).size=nm.size+1+di.size:=(by rw[ByteArray.size_append,ByteArray.size_append];rfl);go_simp
 simp only[tkS];refine tk 9 (.string (s++(nm++Xo++di++QP))) (fun w hSw=>?_) hC1 ?_
 ·have e9:(nm++Xo++di++QP).size=nm.size+1+di.size+1:=(by rw[ByteArray.size_append,ByteArray.size_append,ByteArray.size_append];rfl);go_simp
 simp only[tkS];refine tk 10 (.string (s++(nm++Xo++di++QP))) (fun w hSw=>?_) hC1 ?_
 ·go_simp
 simp only[tkS];refine wpAnyH_done (by kernel_rfl) ?_ _;have hTe:=HQT.out _ hC1;go_wp2_with fail;go_roundw
 case rel=>exact⟨k+1,by omega,by go_num,by rw[HnS.out],hTe⟩
 case measure=>simp[intOf];omega
end Go.Proofs.YtgbnlmplkealdaaGreatDoor
