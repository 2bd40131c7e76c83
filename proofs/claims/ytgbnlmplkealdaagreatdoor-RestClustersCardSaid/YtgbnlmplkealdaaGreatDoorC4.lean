
/- WalkA: Walk1, Walk2, Walk3, GV, Walk4, Walk5. -/
import Derived.Test.YtgbnlmplkealdaaGreatDoorC3
set_option linter.all false
set_option maxHeartbeats 4000000
set_option maxRecDepth 100000
namespace Go.Proofs.YtgbnlmplkealdaaGreatDoor
open Go.RowKit
variable [Ghost]
def YC (w w':World) (e:Ending) (xs:List Int):Prop:=∃v,e=.returned v∧Bb (fun b=>w.heap.size≤b) w' v xs∧Below w.heap.size w w'
def ZL (w w':World) (e:Ending) (o:Obj):Prop:=∃lv,e=.returned (.agg #[.int .i64 o.id,.int .i64 o.kind,lv,.string o.text])∧Bu (fun b=>w.heap.size≤b) w' o lv∧Below w.heap.size w w'
theorem VB {x:World} {B N:Nat} {v:Value} {zs:List Int} (h:x.ownsRow B 3 1 v N (zs.map (Value.int .i64))) (hN:N=zs.length) (hi:∀z∈zs,Dy z) (hb:N*8≤140737488351232):Bb (fun b=>B≤b) x v zs:=by
 subst hN;refine⟨Iu h (fun g hg=>(h.lt g hg).1) (by omega) (fun i hn j u hu=>?_),hi⟩
 match j,hu with
 |0,hu=>
  simp at hu;subst hu;simp[DV hn,hn]
theorem KM {w:World} {xs:List Int} {lv:Value} {S:Nat→Prop} (ty:TypeId) (hy:Bb S w lv xs):
  ∃v' x',(Builtin.append_ #[94,94] ty #[.slice (some ⟨w.heap.size,0,none⟩) 0 0,lv]).run Tryz.prog (w.alloc (.cells #[] 3))=.ok v' x'∧(∃a n c,v'=.slice a n c)∧
   Bb (fun b=>w.heap.size≤b) x' v' xs∧Below w.heap.size w x':=by
 have hown:=VA w 3 w.heap.size (Nat.le_refl _);have hlen:xs.length*8≤140737488351232:=by obtain⟨⟨_,_,_,_,_,h,_⟩,_⟩:=hy;exact h
 obtain⟨i0,hi,hz0,hz1,hz2⟩:=info_parts Tryz.infoInt;have hy':=hy.below ((Below.refl _ _).alloc (Nat.le_refl _) (.cells #[] 3));obtain⟨a,n,cap,HN,rfl,h1,h2,h3,h4⟩:=hy'.open;have hn:n=xs.length:=HN.out;subst hn;have hB1:Below w.heap.size w (w.alloc (.cells #[] 3)):=bal;by_cases h0:xs.length=0
 ·have hnil:xs=[]:=List.length_eq_zero_iff.1 h0
  subst hnil;refine⟨.slice (some ⟨w.heap.size,0,none⟩) 0 0,w.alloc (.cells #[] 3),?_,⟨_,_,_,rfl⟩,Bb.nil _ _ _ _ (by omega),hB1⟩;exact run_append_nothing _ 94 94 ty 3 i0 Tryz.underlying94 hi (some ⟨w.heap.size,0,none⟩) 0 0 (Nat.le_refl _) _
   ⟨.inl ⟨_,Tryz.underlying94⟩,fun w'=>by simp[Builtin.lenOf],by cases a<;>simp[Builtin.firstCells]<;>rfl,by cases a<;>simp[Builtin.firstCells]<;>rfl,by simp,by simp⟩
 ·obtain⟨b,off,rfl,_,hc⟩:=h4 (by omega)
  obtain⟨g',c',x',hr,ho,hg,_,_⟩:=run_append_lies (P:=Tryz.prog) (w.alloc (.cells #[] 3)) 94 ty w.heap.size 3 i0 _ 1 8 Tryz.underlying94 hi hz0 hz1 hz2 rfl (by omega) _ 0 _ hown ⟨b,off,none⟩ xs.length cap (xs.map (Value.int .i64)) (by simp)
   (fun j u hu=>by
    rw[List.getElem?_map] at hu;by_cases hj:j<xs.length
    ·rw[List.getElem?_eq_getElem hj] at hu
     simp at hu;subst hu;have:=hc j _ hj (Below.refl _ _);rw[DV hj] at this;rw[show(⟨b,off,none⟩:Addr).add j=⟨b,off+j,none⟩ by unfold Addr.add;split<;>simp_all];exact this
    ·rw[List.getElem?_eq_none (by omega)] at hu;cases hu)
   (by intro u hu;obtain⟨k,_,rfl⟩:=List.mem_map.1 hu;rfl) (by omega) (by unfold maxLen;omega) (by omega) (by simp) _ rfl
  refine⟨_,x',hr,⟨_,_,_,rfl⟩,VB (by simpa using ho) (by omega) hy.2 (by omega),?_⟩;exact Below.grown hB1 hg (by simp) (fun k hk=>(hown.lt k hk).1)
theorem AY {P:Program} {ops:Array Oper} {IM:List Oper} {o:Oper} {a:Act} {w w':World} {Q:Exit→Act→World→Prop} (hgd:o.guard=none) (s x:Operand) (t:TypeId)
  (ho:o.op=.call {callee:=.builtin .append,args:=#[s,x],argTypes:=#[t,t]}) (v u r:Value) (hs:a.eval s=v) (hx:a.eval x=u)
  (hr:(Builtin.append_ #[t,t] o.type #[v,u]).run P w=.ok r w') (h:wpList P ops Q IM (a.put o.dst r) w'):wpList P ops Q (o::IM) a w:=by
 refine wpList_plain hgd fun K hK=>?_
 exact Cm s x t ho v u r hs hx hr (hK _ _ h)
theorem UO (xs:List Int) (v:Value) (S:Nat→Prop) (w:World) (h:Bb S w v xs):Calls Tryz.prog 140 #[v] w fun e w'=>YC w w' e xs:=by
 have hq:=fun(w:World) (a:Option Addr) (n c:Nat)=>Lib.run_eql_slice_nil (P:=Tryz.prog) w 94 3 a n c 0 0 Tryz.underlying94
 have h':=h;obtain⟨a,n,cap,HN,rfl,h1,h2,h3,h4⟩:=h.open;cases a with
 | none=>
  have hn:n=0:=by
   rcases Nat.eq_zero_or_pos n with e|e
   ·exact e
   ·obtain⟨b,off,e,_⟩:=h4 e;cases e
  subst hn;have hnil:xs=[]:=List.length_eq_zero_iff.1 HN.out.symm;subst hnil;clear h' h4 HN h
  go_enter Tryz.func140, Tryz.ntmps140
  go_wp2_with fail;go_ret;exact⟨_,rfl,Bb.nil _ _ _ _ (by omega),Below.refl _ _⟩
 |some p=>
  obtain⟨v',x',hr,⟨a',n',c',rfl⟩,hv,hb⟩:=KM 94 h';have Hv:=zh hv;have Hb:=zh hb;clear hv hb h4 h h'
  go_enter Tryz.func140, Tryz.ntmps140
  go_wp2_with (at_builtin;refine AY rfl _ _ 94 rfl _ _ _ rfl rfl hr ?_);go_ret;exact⟨_,rfl,Hv.out,Hb.out⟩
theorem QF (o:Obj) (lv:Value) (S:Nat→Prop) (w:World) (ho:Bu S w o lv):
  Calls Tryz.prog 107 #[.agg #[.int .i64 o.id,.int .i64 o.kind,lv,.string o.text]] w fun e w'=>ZL w w' e o:=by
 obtain⟨⟨p,c⟩,rfl⟩:=ho.1.shape;obtain⟨w0,hw0⟩:∃w0:World,w0=(w.alloc (.cells #[.int .i64 o.id,.int .i64 o.kind,.slice p o.links.length c,.string o.text] 96)).alloc (.cells #[.int .i64 0,.int .i64 0,.slice none 0 0,.string ⟨#[]⟩] 96):=⟨_,rfl⟩;have h1:w0.heap[w.heap.size]?=some (.cells #[.int .i64 o.id,.int .i64 o.kind,.slice p o.links.length c,.string o.text] 96 (0,0)):=by
  rw[hw0,Below.heap_alloc _ _ _ (by simp)];exact heap_alloc_new w _
 have h2:w0.heap[w.heap.size+1]?=some (.cells #[.int .i64 0,.int .i64 0,.slice none 0 0,.string ⟨#[]⟩] 96 (0,0)):=by
  rw[hw0];exact KU _ _ _ (by simp)
 have hb:Below w.heap.size w w0:=by rw[hw0];exact bal.alloc (by simp) _
 have hz:w0.heap.size=w.heap.size+2:=by rw[hw0];simp
 have c2:=Aa (j:=2) h1 rfl
 go_enter Tryz.func107, Tryz.ntmps107
 go_wp2_with fail;rw[←hw0];have Hw0:=zh hw0;clear hw0;refine(UO o.links _ S _ (ho.1.below hb)).mono ?_;rintro e w1 ⟨v1,rfl,hv1,hb1⟩;obtain⟨⟨p1,c1⟩,rfl⟩:=hv1.shape;have k1:=(hb1.block _ (lt_of_block h1)).trans h1;have k2:=(hb1.block _ (lt_of_block h2)).trans h2;obtain⟨d0,d1,d2,d3⟩:=bc4 k1;have f2:=Ad (j:=2) k1;obtain⟨e0,e1,e2,e3⟩:=bc4 k2;obtain⟨g0,g1,g2,g3⟩:=bf4 k2;have hs2:=(Below.heap_setCell w1 ⟨w.heap.size,2,none⟩ (.slice p1 o.links.length c1) (w.heap.size+1) (by simp)).trans k2;have hs4:=Zq (v0:=.int .i64 o.id) (v1:=.int .i64 o.kind) (v2:=.slice p1 o.links.length c1) (v3:=.string o.text) hs2;have hu:AK (fun b=>b=w.heap.size∨b=w.heap.size+1) w1 (Yf (w.heap.size+1) (.int .i64 o.id) (.int .i64 o.kind) (.slice p1 o.links.length c1) (.string o.text) (w1.setCell ⟨w.heap.size,2,none⟩ (.slice p1 o.links.length c1))):=
  (AK.setCell (AK.refl _ _) (fun _=>.inl rfl) _).trans (Yg _ _ _ _ _ _) (fun x _ h=>.inr h)
 have HO:=zh (show Bu (fun b=>w.heap.size≤b) _ o (.slice p1 o.links.length c1) from⟨(hv1.upd hu (fun b hb h=>by omega)).weaken (fun b hb=>by omega),ho.2⟩);have HB:=zh ((hb.trans (hb1.mono (by omega))).trans (hu.below (B:=w.heap.size) (by have:=hb1.size;omega) (fun b hb=>by omega)));have Hs4:=zh hs4;clear hs2 hs4 hu k1 k2 h1 h2 hb hv1 hb1;go_wp2_with fail;refine bodyPost_ret (w:=Yf (w.heap.size+1) (.int .i64 o.id) (.int .i64 o.kind) (.slice p1 o.links.length c1) (.string o.text) (w1.setCell ⟨w.heap.size,2,none⟩ (.slice p1 o.links.length c1))) (v:=.agg #[.int .i64 o.id,.int .i64 o.kind,.slice p1 o.links.length c1,.string o.text]) ?_ rfl ?_
 ·have x0:=Aa (j:=0) Hs4.out rfl
  have x1:=Aa (j:=1) Hs4.out rfl;have x2:=Aa (j:=2) Hs4.out rfl;have x3:=Aa (j:=3) Hs4.out rfl;clear HO HB Hs4 d0 d1 d2 d3 e0 e1 e2 e3;generalize Yf (w.heap.size+1) (.int .i64 o.id) (.int .i64 o.kind) (.slice p1 o.links.length c1) (.string o.text) (w1.setCell ⟨w.heap.size,2,none⟩ (.slice p1 o.links.length c1))=wf at*;simp[results,Tryz.results107,go_sem, *]
 ·exact⟨_,rfl,HO.out,HB.out⟩
def Qc (g:Nat) (par:Bool):Prop:=∀(o:Obj) (lv:Value) (S:Nat→Prop) (w:World),Bu S w o lv→(par=true→0<o.links.length)→
 Calls Tryz.prog g #[.agg #[.int .i64 o.id,.int .i64 o.kind,lv,.string o.text]] w fun e w'=>∃v,e=.returned v∧Bb S w' v (EN o par)∧Below w.heap.size w w'
theorem Vn {S:Nat→Prop} {w:World} {a:Option Addr} {n cap:Nat} {xs:List Int} (h:Bb S w (.slice a n cap) xs) (hn:0<xs.length):
  ∃b off,a=some ⟨b,off,none⟩∧n=xs.length∧Bb S w (.slice (some ⟨b,off+1,none⟩) (n-1) (cap-1)) (xs.drop 1):=by
 obtain⟨⟨a',cap',hv,h1,h2,h3,h4⟩,h5⟩:=h;cases hv;obtain⟨b,off,ha,hS,hc⟩:=h4 hn;have hl:(xs.drop 1).length=xs.length-1:=by simp
 refine⟨b,off,ha,rfl,⟨⟨_,cap-1,by rw[hl],by omega,by omega,by omega,fun hp=>⟨b,off+1,rfl,⟨hS.1,hS.2.sub (by omega) (by rw[hl];omega)⟩,fun i hi j u hu=>?_⟩⟩,fun x hx=>h5 x (List.mem_of_mem_drop hx)⟩⟩;have hx:Ct (xs.drop 1) i=Ct xs (i+1):=by
  unfold Ct at_;simp only[List.getD_eq_getElem?_getD,List.getElem?_drop];rw[Nat.add_comm]
 have hu':[Value.int .i64 (Ct (xs.drop 1) i)][j]?=some u:=hu;rw[hx] at hu';have:=hc (i+1) (by omega) j u hu';rw[show off+1+i*1+j=off+(i+1)*1+j by omega];exact this
theorem Sj:Qc 198 true:=by
 intro o lv S w ho hl;have hl:=hl rfl;obtain⟨⟨p,c⟩,rfl⟩:=ho.1.shape;have hcap:o.links.length≤c:=by obtain⟨⟨_,_,hv,h,_⟩,_⟩:=ho.1;cases hv;exact h
 have hcap2:c≤9223372036854775807:=by obtain⟨⟨_,_,hv,_,h,_⟩,_⟩:=ho.1;cases hv;exact h
 obtain⟨b,off,hp,_,hd⟩:=Vn ho.1 hl;simp only at hp;subst hp;obtain⟨R,hR,hR1,x0,x1,x2,x3⟩:=Ev w (.int .i64 o.id) (.int .i64 o.kind) (.slice (some ⟨b,off,none⟩) o.links.length c) (.string o.text) 96;have hbw:=hR.below _ hR1;have HO:=zh (hd.below hbw);clear hd;generalize hn:o.links.length=n at*;have Hn:=zh hn;clear hn;have hi1:(1:Int)≤(n:Int):=by omega
 by_cases hc1:c=1
 ·subst hc1
  have hn1:n=1:=by omega
  subst hn1;have HN:=zh (show EN o true=[] from List.drop_eq_nil_of_le (by rw[Hn.out];exact Nat.le_refl _))
  go_enter Tryz.func198, Tryz.ntmps198
  go_wp2_with fail;go_ret;exact⟨_,rfl,by rw[HN.out];exact Bb.nil _ _ _ _ (by omega),hbw⟩
 ·go_enter Tryz.func198, Tryz.ntmps198
  go_wp2_with fail;go_ret;exact⟨_,rfl,HO.out,hbw⟩
variable [Ghost]
def BQ (n:Nat) (M:Nat→Bool):Array Value:=((List.range n).map fun j=>Value.bool (M j)).toArray
theorem CT {n:Nat} {M:Nat→Bool} {j:Nat} (h:j<n):(BQ n M)[j]?=some (.bool (M j)):=by simp[BQ,h]
theorem Ge {n:Nat} {M:Nat→Bool} {i:Nat} (h:i<n):(BQ n M).setIfInBounds i (.bool true)=BQ n (fun j=>M j||j==i):=by
 apply Array.ext_getElem?
 intro j;rw[Array.getElem?_setIfInBounds];by_cases hj:i=j
 ·subst hj;simp[BQ,h]
 ·by_cases hn:j<n
  ·rw[if_neg hj,CT hn,CT hn]
   have:(j==i)=false:=by simp;omega
   simp[this]
  ·have e1:(BQ n M)[j]?=none:=by simp[BQ];omega
   have e2:(BQ n (fun j=>M j||j==i))[j]?=none:=by simp[BQ];omega
   rw[if_neg hj,e1,e2]
def Ds (bw bm n:Nat) (lv:Value) (M:Nat→Bool) (w:World):Prop:=
 w.heap[bw]?=some (.cells #[lv,.slice (some ⟨bm,0,none⟩) n n] 222 (0,0))∧w.heap[bm]?=some (.cells (BQ n M) 4 (0,0))
theorem Ds.below {bw bm n:Nat} {lv:Value} {M:Nat→Bool} {w w':World} (h:Ds bw bm n lv M w) (hb:Below w.heap.size w w'):Ds bw bm n lv M w':=
 ⟨(hb.block _ (lt_of_block h.1)).trans h.1,(hb.block _ (lt_of_block h.2)).trans h.2⟩
def WB (bw bm:Nat) (lv:Value) (l:List Obj) (par:Bool) (i:Nat) (M:Nat→Bool) (w:World) (e:Ending) (w':World):Prop:=
 e=.returned (.tuple #[])∧∃M',Ds bw bm l.length lv M' w'∧(∀j,j<l.length→(M' j=true↔M j=true∨Rch l par i j))∧AK (fun b=>b=bm) w w'
def Uk (l:List Obj) (par:Bool) (i k c:Nat):Prop:=c<i∧(obj l c).id=Ct (EN (obj l i) par) k∧Fc l par i c=true
theorem Right.leads {l:List Obj} (h:Right l) {par:Bool} {i k:Nat} (hi:i<l.length) (hk:k<(EN (obj l i) par).length):∃c,Uk l par i k c:=by
 have hm:Ct (EN (obj l i) par) k∈EN (obj l i) par:=by rw[DV hk];exact List.getElem_mem hk
 obtain⟨k',hk',e,_⟩:=Ii hm;obtain⟨c,hc,hid,_⟩:=h.linked hi hk';refine⟨c,hc,by rw[e];exact hid,?_⟩;simp only[Fc,Bool.and_eq_true,decide_eq_true_eq,List.any_eq_true,beq_iff_eq];exact⟨by omega,_,hm,by rw[e];exact hid.symm⟩
theorem Right.leads_all {l:List Obj} (h:Right l) {par:Bool} {i j:Nat} (hi:i<l.length):Rch l par i j↔j=i∨∃k c,k<(EN (obj l i) par).length∧Uk l par i k c∧Rch l par c j:=by
 constructor
 ·intro hr
  cases hr with
  |refl=>exact .inl rfl
  |step e hr=>
   rename_i c
   have hci:=h.edge_lt hi e;have e':=e;simp only[Fc,Bool.and_eq_true,decide_eq_true_eq,List.any_eq_true,beq_iff_eq] at e';obtain⟨hc,x,hx,hxe⟩:=e';obtain⟨k,hk,rfl⟩:=List.getElem_of_mem hx;exact .inr ⟨k,c,hk,⟨hci,by rw[DV hk];exact hxe.symm,e⟩,hr⟩
 ·rintro(rfl|⟨k,c,hk,⟨_,_,e⟩,hr⟩)
  ·exact .refl _
  ·exact .step e hr
def Ng (l:List Obj) (par:Bool) (i k:Nat) (M Mk:Nat→Bool):Prop:=
 ∀j,j<l.length→(Mk j=true↔M j=true∨j=i∨∃k' c,k'<k∧Uk l par i k' c∧Rch l par c j)
def IP (l:List Obj) (par:Bool) (i:Nat) (M:Nat→Bool):Prop:=∀a b,a≤i→a<l.length→M a=true→Fc l par a b=true→M b=true
theorem SZ {l:List Obj} (h:Right l) {par:Bool} {i j:Nat} {M:Nat→Bool} (hi:i<l.length) (hc:IP l par i M) (hM:M i=true) (hr:Rch l par i j):M j=true:=by
 have key:∀a b,Rch l par a b→a≤i→M a=true→M b=true:=by
  intro a b hab
  induction hab with
  |refl=>exact fun _ h=>h
  |step e _ ih=>
   intro ha hMa;have:=h.edge_lt (by omega) e;exact ih (by omega) (hc _ _ ha (by omega) hMa e)
 exact key i j hr (Nat.le_refl _) hM
theorem Tx (l:List Obj) (par:Bool) (i:Nat) (M:Nat→Bool):Ng l par i 0 M (fun j=>M j||j==i):=fun j hj=>by
 simp
theorem QA {l:List Obj} (h:Right l) {par:Bool} {i k c:Nat} {M Mk:Nat→Bool} (hi:i<l.length) (hc:IP l par i M) (hm:Ng l par i k M Mk) (hci:c<i):IP l par c Mk:=by
 intro a b hac ha hMa e;have hb:=h.edge_lt ha e;rcases(hm a ha).1 hMa with h1|h1|⟨k',c',h1,h2,h3⟩
 ·exact(hm b (by omega)).2 (.inl (hc a b (by omega) ha h1 e))
 ·omega
 ·exact(hm b (by omega)).2 (.inr (.inr ⟨k',c',h1,h2,h3.snoc e⟩))
theorem Tw {l:List Obj} {par:Bool} {i k c:Nat} {M Mk Mk':Nat→Bool} (hR:Right l) (hi:i<l.length) (hm:Ng l par i k M Mk) (hl:Uk l par i k c) (hn:∀j,j<l.length→(Mk' j=true↔Mk j=true∨Rch l par c j)):Ng l par i (k+1) M Mk':=by
 intro j hj;rw[hn j hj,hm j hj];constructor
 ·rintro((h1|h1|⟨k',c',h1,h2,h3⟩)|h1)
  ·exact .inl h1
  ·exact .inr (.inl h1)
  ·exact .inr (.inr ⟨k',c',by omega,h2,h3⟩)
  ·exact .inr (.inr ⟨k,c,by omega,hl,h1⟩)
 ·rintro(h1|h1|⟨k',c',h1,h2,h3⟩)
  ·exact .inl (.inl h1)
  ·exact .inl (.inr (.inl h1))
  ·by_cases e:k'=k
   ·subst e
    have:=hR.rising.inj (show c'<l.length by have:=h2.1;omega) (show c<l.length by have:=hl.1;omega) (h2.2.1.trans hl.2.1.symm);subst this;exact .inr h3
   ·exact .inl (.inr (.inr ⟨k',c',by omega,h2,h3⟩))
theorem Vs {l:List Obj} (h:Right l) {par:Bool} {i k:Nat} {M Mk:Nat→Bool} (hi:i<l.length) (hk:k=(EN (obj l i) par).length) (hm:Ng l par i k M Mk):∀j,j<l.length→(Mk j=true↔M j=true∨Rch l par i j):=by
 intro j hj;subst hk;rw[hm j hj,h.leads_all hi]
theorem Wd (l:List Obj) (par:Bool) (g:Nat) (hg:Qc g par) (eg:∀args w,(callFunc g args).run Tryz.prog w=.ok (.enter g args) w) (hR:Right l) (S:Nat→Prop) (lv:Value) (bw bm:Nat) (hSm:∀b,S b→¬b=bm) (hne:bw≠bm):
  ∀i,i<l.length→(par=true→(obj l i).kind=3)→∀(w:World) (M:Nat→Bool),Ai S w lv l→Ds bw bm l.length lv M w→IP l par i M→
   Calls Tryz.prog 209 #[.pointer (some ⟨bw,0,none⟩),.int .i64 (obj l i).id,.func (.func g) #[] #[]] w (WB bw bm lv l par i M w):=by
 intro i
 induction i using Nat.strongRecOn with
 |ind i ih=>
 intro hi hpk w M hst hw hcl;have hlo:=hR.rising.lo_self hi;have hat:=hR.rising.isAt_self hi;obtain⟨a,n,cap,la,ln,lc,HN,hlv,h1,h2,h3,h4,h5⟩:=hst.open;have Hst:=zh hst;have Hw:=zh hw;have Hat:=zh (fun x (hx:Below w.heap.size w x)=>by have:=LK l lv S (obj l i).id x (hst.below hx) hR.rising;rw[hlo,hat] at this;exact this);have HN1:=HN.out.1;subst hlv;have hin:i<n:=by rw[HN1];exact hi
 obtain⟨b,off,rfl,hSb,k0,k1,k2,k3⟩:=h4 (by omega);have Hlen:=zh HN1;have Hi:=zh hi;obtain⟨c0,c1⟩:=bc2 hw.1;rw[←HN1] at c1;clear HN1 hlo hat hst hw h4 h5 k0 k1 k2 k3 hi;have hi1:=zk i;have hi2:(i:Int)<(n:Int):=by omega
 go_enter Tryz.func209, Tryz.ntmps209
 go_wp2_with fail;refine(Hat.out _ (Below.refl _ _)).mono ?_;rintro e w2 ⟨rfl,hb2⟩;have hw2:=Hw.out.below hb2;obtain⟨d0,d1⟩:=bc2 hw2.1;have dm:=Aa (j:=i) hw2.2 (CT Hi.out);have fm:=Ad (j:=i) hw2.2;rw[←Hlen.out] at d1;have Hw2:=zh hw2;clear hw2 c0 c1;cases hM:M i
 ·rw[hM] at dm
  have Hpar:=zh (show par=true→0<(obj l i).links.length from fun hp=>by
   rcases Nat.eq_zero_or_pos (obj l i).links.length with e|e
   ·have:=Yz (hR.each i Hi.out) e
    rw[hpk hp] at this;exact absurd this (by decide)
   ·exact e)
  obtain⟨w3,hw3⟩:∃w3:World,w3=w2.setCell ⟨bm,i,none⟩ (.bool true):=⟨_,rfl⟩;have hu23:AK (fun b=>b=bm) w2 w3:=by rw[hw3];exact AK.setCell (T:=fun b=>b=bm) (AK.refl _ _) (fun _=>rfl) _
  have h31:Ds bw bm l.length (.slice (some ⟨b,off,none⟩) n cap) (fun j=>M j||j==i) w3:=by
   refine⟨hu23.blk Hw2.out.1 hne,?_⟩;rw[hw3,Ah Hw2.out.2,Ge Hi.out]
  have hst3:=(Hst.out.below hb2).upd hu23 hSm;obtain⟨a3,n3,cap3,la,ln,lc,HN3,e3,_,_,_,h43,h53⟩:=hst3.open;cases e3;obtain⟨b3,off3,e3,_,k0,k1,k2,k3⟩:=h43 (by omega);cases e3;have x0:=k0 i w3 hin (Below.refl _ _);have x1:=k1 i w3 hin (Below.refl _ _);have x2:=k2 i w3 hin (Below.refl _ _);have x3:=k3 i w3 hin (Below.refl _ _);have Ho:=zh (h53 i hin);have y0:=Aa (j:=0) h31.1 rfl;have Hst3:=zh hst3;have H31:=zh h31;have Hu23:=zh hu23;rw[hw3] at x0 x1 x2 x3 y0;have Hw3:=zh hw3;clear hw3 h31 hst3 hu23 k0 k1 k2 k3 h43 h53 HN3;go_wp2_with fail;rw[←Hw3.out];refine(hg (obj l i) _ S _ Ho.out Hpar.out).mono ?_;rintro e w4 ⟨v4,rfl,hv4,hb4⟩;obtain⟨⟨p4,c4⟩,rfl⟩:=hv4.shape;have Hv4:=zh hv4;have H41:=zh (H31.out.below hb4);have HB4:=zh hb4;have Hst4:=zh (Hst3.out.below hb4);clear x0 x1 x2 x3 y0 d0 d1 dm fm hb4 hv4;generalize hm:(EN (obj l i) par).length=m at*;have hm8:m*8≤140737488351232:=by obtain⟨⟨_,_,hv,_,_,h,_⟩,_⟩:=Hv4.out;cases hv;exact h
  have Hm:=zh hm;clear hm;go_wp2_with fail;go_loopw [42] (fun s wr=>∃(k:Nat) (Mk:Nat→Bool),k≤m∧s=.int .i64 k∧Hid (Ds bw bm l.length (.slice (some ⟨b,off,none⟩) n cap) Mk wr∧Ng l par i k M Mk∧AK (fun b=>b=bm) w4 wr)) (fun s _=>m-(intOf s).toNat)
  case atStart=>exact⟨0,_,by omega,rfl,H41.out,Tx l par i M,AK.refl _ _⟩
  obtain⟨k,Mk,hk,rfl,HK⟩:=hrel;by_cases hkm:k<m
  ·have hkf:k<(EN (obj l i) par).length:=by rw[Hm.out];exact hkm
   obtain⟨c,hL⟩:=hR.leads Hi.out hkf;have hcall:=ih c hL.1 (by have:=hL.1;have:=Hi.out;omega) (fun hp=>by subst hp;exact hR.edge_kind Hi.out (hpk rfl) hL.2.2) wr Mk (Hst4.out.upd HK.out.2.2 hSm) HK.out.1 (QA hR Hi.out hcl HK.out.2.1 hL.1);rw[hL.2.1] at hcall;have Hcall:=zh hcall;have HL:=zh hL;obtain⟨a5,n5,c5,HN5,e5,_,_,_,h5⟩:=(Hv4.out.upd HK.out.2.2 hSm).open;cases e5;obtain⟨b5,off5,rfl,_,hc5⟩:=h5 (by have:=Hm.out;omega);have hcell:=hc5 k wr (by have:=Hm.out;omega) (Below.refl _ _);clear hcall hL hc5 h5 HN5;go_wp2_with fail;refine Hcall.out.mono ?_;rintro e w5 ⟨rfl,M',hw5,hM',hu5⟩;have HX:=zh (show Ds bw bm l.length (.slice (some ⟨b,off,none⟩) n cap) M' w5∧Ng l par i (k+1) M M'∧AK (fun b=>b=bm) w4 w5 from
    ⟨hw5,Tw hR Hi.out HK.out.2.1 HL.out hM',HK.out.2.2.trans hu5 (fun _ _ h=>h)⟩)
   clear hw5 hM' hu5;go_wp2_with fail;go_roundw
   case rel=>exact⟨k+1,M',by omega,by go_num,HX⟩
   case measure=>simp[intOf];omega
  ·obtain rfl:k=m:=by omega
   go_wp2_with fail;go_end0;refine⟨rfl,Mk,HK.out.1,Vs hR Hi.out Hm.out.symm HK.out.2.1,?_⟩;have u1:AK (fun b=>b=bm) w w2:=⟨hb2.os,hb2.tape,hb2.output,hb2.size,fun b hb _=>hb2.block b hb⟩;have u3:AK (fun b=>b=bm) w3 w4:=⟨HB4.out.os,HB4.out.tape,HB4.out.output,HB4.out.size,fun b hb _=>HB4.out.block b hb⟩;exact((u1.trans Hu23.out (fun _ _ h=>h)).trans u3 (fun _ _ h=>h)).trans HK.out.2.2 (fun _ _ h=>h)
 ·rw[hM] at dm
  have HU:=zh (hb2);go_wp2_with fail;go_end0;refine⟨rfl,M,Hw2.out,fun j hj=>⟨.inl,?_⟩,⟨hb2.os,hb2.tape,hb2.output,hb2.size,fun b hb _=>hb2.block b hb⟩⟩;rintro(h|h)
  ·exact h
  ·exact SZ hR Hi.out hcl hM h
variable [Ghost]
theorem Bu.lt {S:Nat→Prop} {w:World} {o:Obj} {lv:Value} (h:Bu S w o lv):Bu (fun b=>S b∧b<w.heap.size) w o lv:=⟨h.1.lt,h.2⟩
theorem Ai.lt {S:Nat→Prop} {w:World} {v:Value} {l:List Obj} (h:Ai S w v l):Ai (fun b=>S b∧b<w.heap.size) w v l:=by
 obtain⟨lvs,⟨a,cap,hv,h1,h2,h3,h4⟩,h5⟩:=h;refine⟨lvs,⟨a,cap,hv,h1,h2,h3,fun hn=>?_⟩,fun i hi=>(h5 i hi).lt⟩;obtain⟨b,off,ha,hS,hc⟩:=h4 hn;exact⟨b,off,ha,⟨⟨hS.1,World.block_lt_of_cell? w _ (hc 0 hn 0 _ rfl)⟩,hS.2⟩,hc⟩
def LF (l:List Obj) (par:Bool) (tips:List Int) (k:Nat) (M:Nat→Bool):Prop:=
 ∀j,j<l.length→(M j=true↔∃k' i,k'<k∧i<l.length∧(obj l i).id=Ct tips k'∧Rch l par i j)
theorem Pq {l:List Obj} (h:Right l) {par:Bool} {tips:List Int} {k i:Nat} {M:Nat→Bool} (hm:LF l par tips k M):IP l par i M:=by
 intro a b _ ha hM e;obtain⟨k',i',h1,h2,h3,h4⟩:=(hm a ha).1 hM;exact(hm b (by have:=h.edge_lt ha e;omega)).2 ⟨k',i',h1,h2,h3,h4.snoc e⟩
theorem SE {l:List Obj} (h:Right l) {par:Bool} {tips:List Int} {k i:Nat} {M M':Nat→Bool} (hm:LF l par tips k M) (hi:i<l.length) (hid:(obj l i).id=Ct tips k) (hn:∀j,j<l.length→(M' j=true↔M j=true∨Rch l par i j)):LF l par tips (k+1) M':=by
 intro j hj;rw[hn j hj,hm j hj];constructor
 ·rintro(⟨k',i',h1,h2,h3,h4⟩|h1)
  ·exact⟨k',i',by omega,h2,h3,h4⟩
  ·exact⟨k,i,by omega,hi,hid,h1⟩
 ·rintro⟨k',i',h1,h2,h3,h4⟩
  by_cases e:k'=k
  ·subst e
   have:=h.rising.inj h2 hi (h3.trans hid.symm);subst this;exact .inr h4
  ·exact .inl ⟨k',i',by omega,h2,h3,h4⟩
theorem Ua {l:List Obj} (h:Right l) {par:Bool} {tips:List Int} {M:Nat→Bool} (hm:LF l par tips tips.length M):∀j,j<l.length→M j=FR l par tips j:=by
 intro j hj;rw[Bool.eq_iff_iff,hm j hj,VK h hj];constructor
 ·rintro⟨k,i,h1,h2,h3,h4⟩
  refine⟨i,h2,?_,h4⟩;unfold VZ;rw[List.any_eq_true];exact⟨tips[k],List.getElem_mem h1,by rw[h3,DV h1];simp⟩
 ·rintro⟨i,h2,h3,h4⟩
  unfold VZ at h3;rw[List.any_eq_true] at h3;obtain⟨x,hx,hxe⟩:=h3;obtain⟨k,hk,rfl⟩:=List.getElem_of_mem hx;exact⟨k,i,hk,h2,by rw[DV hk];simpa using(by simpa using hxe:tips[k]=(obj l i).id).symm,h4⟩
def YF (lv:Value) (l:List Obj) (par:Bool) (tips:List Int) (w:World) (e:Ending) (w':World):Prop:=
 ∃bw bm M,e=.returned (.pointer (some ⟨bw,0,none⟩))∧Ds bw bm l.length lv M w'∧(∀j,j<l.length→M j=FR l par tips j)∧Below w.heap.size w w'
theorem Tryz.infoBool:(Tryz.prog.info? 4).map (fun i=>(i.zero,i.size,i.bytes))=some (some (.bool false),1,1):=by kernel_rfl
theorem NY (n:Nat) (hn:n≤1000) (w:World):
  (Instr.makeSlice 44 (.int .i64 (n:Int)) (.int .i64 (n:Int))).run Tryz.prog w=.ok (.slice (some ⟨w.heap.size,0,none⟩) n n) (w.alloc (.cells (BQ n fun _=>false) 4)):=by
 obtain⟨i0,hi,hz0,hz1,hz2⟩:=info_parts Tryz.infoBool;have h:=run_make (P:=Tryz.prog) w 44 4 i0 _ Tryz.underlying44 hi hz0 .i64 .i64 (n:Int) (n:Int) (by omega) (by omega) (by rw[hz2];omega) (by omega);rw[h,hz1];have e:madeCells (Value.bool false).cells ((n:Int).toNat*1)=BQ n fun _=>false:=by
  apply Array.ext
  ·simp[madeCells,BQ,Value.cells]
  ·intro j h1 h2
   simp[madeCells,BQ,Value.cells,Nat.mod_one]
 rw[e];rfl
theorem Yv (l:List Obj) (par:Bool) (tips:List Int) (g:Nat) (hg:Qc g par) (eg:∀args w,(callFunc g args).run Tryz.prog w=.ok (.enter g args) w) (hR:Right l) (S S':Nat→Prop) (lv tv:Value) (w:World)
  (hst:Ai S w lv l) (htv:Bb S' w tv tips) (hpl:∀k,k<tips.length→∃i,i<l.length∧(obj l i).id=Ct tips k∧(par=true→(obj l i).kind=3)):
  Calls Tryz.prog 197 #[lv,tv,.func (.func g) #[] #[]] w (YF lv l par tips w):=by
 obtain⟨a,cap,n,hlv,hnl,hn56⟩:∃a cap n,lv=.slice a n cap∧n=l.length∧n*56≤140737488351232:=let⟨_,⟨a,cap,hv,_,_,h,_⟩,_⟩:=hst;⟨a,cap,_,hv,rfl,h⟩;subst hlv;obtain⟨ta,tn,tcap,HT,rfl,t1,t2,t3,t4⟩:=htv.open;have Hst:=zh hst.lt;have Htv:=zh htv.lt;have Hnl:=zh hnl;have hn40:n≤40:=by rw[hnl];exact hR.many
 have hmk:=NY n (by omega);clear t4 hst htv hnl
 go_enter Tryz.func197, Tryz.ntmps197
 go_wp2_with fail;obtain⟨w0,hw0⟩:∃w0:World,w0=(w.alloc (.cells (BQ n fun _=>false) 4)).alloc (.cells #[.slice a n cap,.slice (some ⟨w.heap.size,0,none⟩) n n] 222):=⟨_,rfl⟩;have HA0:=zh (show Ds (w.heap.size+1) w.heap.size l.length (.slice a n cap) (fun _=>false) w0 by
  rw[hw0,←Hnl.out];exact⟨KU _ _ _ (by simp),by rw[Below.heap_alloc _ _ _ (by simp)];exact heap_alloc_new w _⟩)
 have HB0:=zh (show Below w.heap.size w w0 by rw[hw0];exact bal.alloc (by simp) _);have Hst0:=zh (Hst.out.below HB0.out);have Htv0:=zh (Htv.out.below HB0.out);rw[←hw0];clear hw0 hmk;go_loopw [18] (fun s wr=>∃(k:Nat) (Mk:Nat→Bool),k≤tn∧s=.int .i64 k∧Hid (Ds (w.heap.size+1) w.heap.size l.length (.slice a n cap) Mk wr∧LF l par tips k Mk∧AK (fun b=>b=w.heap.size) w0 wr)) (fun s _=>tn-(intOf s).toNat)
 case atStart=>exact⟨0,_,by omega,rfl,HA0.out,fun j hj=>⟨(fun h=>by cases h),fun⟨k',i,h,_⟩=>absurd h (by omega)⟩,AK.refl _ _⟩
 obtain⟨k,Mk,hk,rfl,HK⟩:=hrel;by_cases hkm:k<tn
 ·obtain⟨i,hi,hid,hpk⟩:=hpl k (by have:=HT.out;omega)
  have hcall:=Wd l par g hg eg hR _ (.slice a n cap) (w.heap.size+1) w.heap.size (fun b hb=>by have:=hb.2;omega) (by omega) i hi hpk wr Mk (Hst0.out.upd HK.out.2.2 (fun b hb=>by have:=hb.2;omega)) HK.out.1 (Pq hR HK.out.2.1);rw[hid] at hcall;have Hcall:=zh hcall;have Hin:=zh (show i<l.length∧(obj l i).id=Ct tips k from⟨hi,hid⟩);obtain⟨a5,n5,c5,HN5,e5,_,_,_,h5⟩:=(Htv0.out.upd HK.out.2.2 (fun b hb=>by have:=hb.2;omega)).open;cases e5;obtain⟨b5,off5,rfl,_,hc5⟩:=h5 (by omega);have hcell:=hc5 k wr hkm (Below.refl _ _);clear hcall hid hi hpk hc5 h5 HN5;go_wp2_with fail;refine Hcall.out.mono ?_;rintro e w5 ⟨rfl,M',hw5,hM',hu5⟩;have HX:=zh (show Ds (w.heap.size+1) w.heap.size l.length (.slice a n cap) M' w5∧LF l par tips (k+1) M'∧AK (fun b=>b=w.heap.size) w0 w5 from
   ⟨hw5,SE hR HK.out.2.1 Hin.out.1 Hin.out.2 hM',HK.out.2.2.trans hu5 (fun _ _ h=>h)⟩)
  clear hw5 hM' hu5;go_wp2_with fail;go_roundw
  case rel=>exact⟨k+1,M',by omega,by go_num,HX⟩
  case measure=>simp[intOf];omega
 ·obtain rfl:k=tn:=by omega
  go_wp2_with fail;go_ret;have hm:=HK.out.2.1;rw[HT.out] at hm;exact⟨_,_,Mk,rfl,HK.out.1,Ua hR hm,HB0.out.trans (HK.out.2.2.below (by have:=HB0.out.size;omega) (fun b hb=>by omega))⟩
variable [Ghost]
theorem DR {w w':World} {base:Nat} {e:TypeId} {size:Nat} {v:Value} {n:Nat} {xs:List Value} (h:w.ownsRow base e size v n xs) (hb:Below w.heap.size w w'):w'.ownsRow base e size v n xs:=by
 refine⟨h.1,?_⟩;rcases h.2 with h2|⟨g,cap,cur,rfl,hg,hh,r⟩
 ·exact .inl h2
 ·exact .inr ⟨g,cap,cur,rfl,hg,(hb.block _ (lt_of_block hh)).trans hh,r⟩
def Dd (S:Nat→Prop) (B:Nat) (w:World) (v:Value) (l:List Obj):Prop:=
 ∃lvs:Nat→Value,(∀b,S b→b<w.heap.size∧v.ownBlock≠some b)∧w.ownsRow B 96 4 v l.length (AN (fun i=>AG (obj l i) (lvs i)) l.length)∧
  ∀i,i<l.length→Bu S w (obj l i) (lvs i)
def GV (B:Nat) (w:World) (v:Value) (l:List Obj):Prop:=
 ∃(S:Nat→Prop) (lvs:Nat→Value),(∀b,S b→b<w.heap.size∧v.ownBlock≠some b)∧w.ownsRow B 96 4 v l.length (AN (fun i=>AG (obj l i) (lvs i)) l.length)∧
  ∀i,i<l.length→Bu S w (obj l i) (lvs i)
theorem Dd.gath {S:Nat→Prop} {B:Nat} {w:World} {v:Value} {l:List Obj} (h:Dd S B w v l):GV B w v l:=let⟨lvs,h1,h2,h3⟩:=h;⟨S,lvs,h1,h2,h3⟩
theorem GV.nil (B:Nat) (w:World):GV B w (.slice none 0 0) []:=
 ⟨fun _=>False,fun _=>.nilFunc,fun _ h=>h.elim,World.ownsRow_nil _ _ _ _,fun i hi=>by simp at hi⟩
theorem GV.below {B:Nat} {w w':World} {v:Value} {l:List Obj} (h:GV B w v l) (hb:Below w.heap.size w w'):GV B w' v l:=by
 obtain⟨S,lvs,h1,h2,h3⟩:=h;exact⟨S,lvs,fun b hS=>⟨Nat.lt_of_lt_of_le (h1 b hS).1 hb.size,(h1 b hS).2⟩,DR h2 hb,fun i hi=>(h3 i hi).below hb⟩
theorem GV.shape {B:Nat} {w:World} {v:Value} {l:List Obj} (h:GV B w v l):∃a c,v=.slice a l.length c:=by
 obtain⟨S,lvs,h1,h2,h3⟩:=h;rcases h2.2 with⟨rfl,hn⟩|⟨g,cap,cur,rfl,_⟩
 ·exact⟨none,0,by rw[hn]⟩
 ·exact⟨_,_,rfl⟩
theorem GV.store {B:Nat} {w:World} {v:Value} {l:List Obj} (h:GV B w v l) (hl:l.length*56≤140737488351232):Ai (fun _=>True) w v l:=by
 obtain⟨S,lvs,h1,h2,h3⟩:=h;refine⟨lvs,Iu h2 (fun _ _=>trivial) hl (fun i hi j u hu=>?_),fun i hi=>(h3 i hi).weaken fun _ _=>trivial⟩;exact CJ (cs:=fun i=>AG (obj l i) (lvs i)) (fun _ _=>rfl) i hi j u hu
theorem GV.own {B:Nat} {w:World} {v:Value} {l:List Obj} (h:GV B w v l):∃xs,w.ownsRow B 96 4 v l.length xs:=let⟨_,_,_,h2,_⟩:=h;⟨_,h2⟩
theorem GV.block {B:Nat} {w:World} {v:Value} {l:List Obj} (h:GV B w v l) {g:Nat} (hg:v.ownBlock=some g):B≤g∧g<w.heap.size:=by
 obtain⟨xs,hx⟩:=h.own;exact hx.lt g hg
theorem Gi {l:List Obj} {o:Obj} {i:Nat} (h:i<l.length):obj (l++[o]) i=obj l i:=by
 unfold obj at_;simp only[List.getD_eq_getElem?_getD,List.getElem?_append_left h]
theorem Gh {l:List Obj} {o:Obj}:obj (l++[o]) l.length=o:=by
 unfold obj at_;simp
theorem GV.push {B:Nat} {w w1:World} {v v':Value} {l:List Obj} {o:Obj} {lv:Value} {S2:Nat→Prop} {ob:Go.Obj} {S:Nat→Prop} {lvs:Nat→Value}
  (h1:∀b,S b→b<w.heap.size∧v.ownBlock≠some b) (h3:∀i,i<l.length→Bu S w (obj l i) (lvs i)) (hv:∀g,v.ownBlock=some g→g<w.heap.size)
  (ho:Bu S2 w o lv) (h2:∀b,S2 b→b<w.heap.size∧v.ownBlock≠some b)
  (hown:w1.ownsRow B 96 4 v' (l.length+1) (AN (fun i=>AG (obj l i) (lvs i)) l.length++AG o lv)) (hgrow:(w.alloc ob).grownBy w1 v.ownBlock)
  (hat:v'.ownBlock=v.ownBlock∨v'.ownBlock=some (w.heap.size+1)):Dd (fun b=>S b∨S2 b) B w1 v' (l++[o]):=by
 have hu:AK (fun b=>v.ownBlock=some b) w w1:=AK.grown ((AK.refl _ _).alloc ob) hgrow (fun k hk _=>hk);refine⟨fun i=>if i<l.length then lvs i else lv,fun b hb=>?_,?_,fun i hi=>?_⟩
 ·have hb':b<w.heap.size∧v.ownBlock≠some b:=by rcases hb with hb|hb;exact h1 b hb;exact h2 b hb
  refine⟨Nat.lt_of_lt_of_le hb'.1 hu.size,?_⟩;rcases hat with h|h
  ·rw[h];exact hb'.2
  ·rw[h];intro e;cases e;omega
 ·rw[List.length_append,List.length_singleton,AN]
  have e1:AN (fun i=>AG (obj (l++[o]) i) (if i<l.length then lvs i else lv)) l.length=AN (fun i=>AG (obj l i) (lvs i)) l.length:=
   Bi fun i hi=>by rw[Gi hi,if_pos hi]
  rw[e1,Gh];simp only[Nat.lt_irrefl,if_false];exact hown
 ·rw[List.length_append,List.length_singleton] at hi
  by_cases hl:i<l.length
  ·simp only[Gi hl,if_pos hl]
   exact((h3 i hl).upd hu (fun b hb h=>(h1 b hb).2 h)).weaken fun _ h=>.inl h
  ·have:i=l.length:=by omega
   subst this;simp only[Gh,if_neg hl];exact(ho.upd hu (fun b hb h=>(h2 b hb).2 h)).weaken fun _ h=>.inr h
theorem Tryz.infoObj:(Tryz.prog.info? 96).map (fun i=>(i.zero,i.size,i.bytes))=some (some (.agg #[.int .i64 0,.int .i64 0,.slice none 0 0,.string ⟨#[]⟩]),4,56):=by kernel_rfl
theorem Dq {ops:Array Oper} {IM:List Oper} {o:Oper} {a:Act} {w:World} {Q:Exit→Act→World→Prop} (hgd:o.guard=none) (s x:Operand)
  (ho:o.op=.call {callee:=.builtin .append,args:=#[s,x],argTypes:=#[25,25]}) {B:Nat} {v:Value} {l:List Obj} {p:Obj} {lv:Value} {S S2:Nat→Prop}
  (hG:Dd S B w v l) (hp:Bu S2 w p lv) (hlv:lv.oneCell'=true) (h2:∀b,S2 b→b<w.heap.size∧v.ownBlock≠some b) (hl:(l.length+1)*56≤140737488351232) (hB:B≤w.heap.size)
  (hs:a.eval s=v) {N:Nat} (hx:a.eval x=.slice (some ⟨N,0,none⟩) 1 1) (hN:N=w.heap.size)
  (h:∀v' w',Dd (fun b=>S b∨S2 b) B w' v' (l++[p])→AK (fun b=>v.ownBlock=some b) w w'→wpList Tryz.prog ops Q IM (a.put o.dst v') w'):
  wpList Tryz.prog ops Q (o::IM) a (w.alloc (.cells #[.int .i64 p.id,.int .i64 p.kind,lv,.string p.text] 96)):=by
 subst hN;obtain⟨lvs,h1,hown,h3⟩:=hG;obtain⟨i0,hi,hz0,hz1,hz2⟩:=info_parts Tryz.infoObj;refine wpList_append_own_at _ hgd s x 25 ho B 96 i0 _ 4 56 Tryz.underlying25 hi hz0 hz1 hz2 rfl (by decide) v l.length _ hs (hown.alloc _) ⟨w.heap.size,0,none⟩ 1 1 (AG p lv) hx rfl
  (World.news_of_block (cs:=#[.int .i64 p.id,.int .i64 p.kind,lv,.string p.text]) (t:=96) (fr:=(0,0)) (heap_alloc_new w _)) ?_ ?_ (by omega) (by simp;omega) ?_
 ·intro u hu
  simp only[AG,List.mem_cons,List.not_mem_nil,or_false] at hu;rcases hu with rfl|rfl|rfl|rfl
  ·rfl
  ·rfl
  ·exact hlv
  ·rfl
 ·unfold maxLen;omega
 ·intro v' w' hown' hgrow _ hat
  exact h v' w' (GV.push h1 h3 (fun g hg=>(hown.lt g hg).2) hp h2 hown' hgrow (by simpa using hat)) (AK.grown ((AK.refl _ _).alloc _) hgrow (fun k hk _=>hk))
variable [Ghost]
variable [Ghost]
theorem AD.place {l:List Obj} (h:AD l) {id:Int} (hk:AC l id≠0):CO l id=true∧lo l id<l.length∧Kn l id=(lo l id:Int)∧(obj l (lo l id)).id=id∧AC l id=(obj l (lo l id)).kind:=by
 obtain⟨j,hj,hid,hkd⟩:=FM hk;subst hid;have e:=h.lo_self hj;refine⟨h.isAt_self hj,by rw[e];exact hj,by rw[h.at_self hj,e],by rw[e],by rw[e];exact hkd⟩
theorem YV (l:List Obj) (old newer:Int) (lv:Value) (S:Nat→Prop) (w:World) (h:Ai S w lv l) (hR:Right l) (h1:AC l old≠0) (h2:AC l newer=3) (hi:Dy newer):
  Calls Tryz.prog 181 #[lv,.int .i64 old,.int .i64 newer] w fun e w'=>e=.returned (.bool (Dj l old newer))∧Below w.heap.size w w':=by
 obtain⟨p1,p2,p3,p4,p5⟩:=hR.rising.place h1;obtain⟨q1,q2,q3,q4,q5⟩:=hR.rising.place (id:=newer) (by omega);have Hat:=zh (by have:=LK l lv S old w h hR.rising;rw[p1] at this;exact this);obtain⟨sa,sc,sn,rfl⟩:∃a cap n,lv=.slice a n cap:=let⟨_,⟨a,cap,hv,_⟩,_⟩:=h;⟨a,cap,_,hv⟩;have Hb:=zh (show Dj l old newer=FR l true [newer] (lo l old) by unfold Dj;rw[p3];rfl);have Hpl:=zh (show∀k,k<[newer].length→∃i,i<l.length∧(obj l i).id=Ct [newer] k∧(obj l i).kind=3 from fun k hk=>by
  have h0:k=0:=by simp at hk;omega
  subst h0;exact⟨lo l newer,q2,q4,by omega⟩)
 generalize hj:lo l old=j at*;have Hj:=zh p2;have HR:=zh hR;clear p1 p2 p3 p4 p5 q1 q2 q3 q4 q5 hj h1 h2
 go_enter Tryz.func181, Tryz.ntmps181
 go_wp2_with fail;refine Hat.out.mono ?_;rintro e w1 ⟨rfl,hb1⟩;have HI:=zh (GN w1 [newer] 3 w1.heap.size rfl (by simp) (by intro x hx;simp only[List.mem_cons,List.not_mem_nil,or_false] at hx;subst hx;exact hi));have hb2:Below w.heap.size w (w1.alloc (.cells #[.int .i64 newer] 3)):=hb1.alloc hb1.size _;have hst2:=h.below hb2;go_wp2_with fail;refine(Yv l true [newer] _ Sj (fun _ _=>rfl) HR.out S _ _ _ _ hst2 HI.out (fun k hk=>let⟨i,a,b,c⟩:=Hpl.out k hk;⟨i,a,b,fun _=>c⟩)).mono ?_;rintro e w3 ⟨bw,bm,M,rfl,hwk,hM,hb3⟩;have hMj:=hM j Hj.out;have hb4:=Al hb2 hb3;have c1:=Aa (j:=1) hwk.1 rfl;have cm:=Aa (j:=j) hwk.2 (CT Hj.out);rw[hMj,←Hb.out] at cm;have hjn:j<l.length:=Hj.out;have Hlen:∃n,n=l.length:=⟨_,rfl⟩;obtain⟨n,hn⟩:=Hlen;rw[←hn] at c1 hjn;have HX:=zh hb4;have hi1:=zk j;have hi2:(j:Int)<(n:Int):=by omega
 clear hn hMj hwk hM hb2 hb3 hb4 hst2 hb1;go_wp2_with fail;go_ret;refine⟨?_,HX.out⟩;rfl
end Go.Proofs.YtgbnlmplkealdaaGreatDoor
