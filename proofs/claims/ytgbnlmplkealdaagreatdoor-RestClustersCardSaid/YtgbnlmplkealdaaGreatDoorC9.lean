
/- Memory: refs in a row of the call's own: append, slices. -/
import Derived.Test.YtgbnlmplkealdaaGreatDoorC6
import Derived.Test.YtgbnlmplkealdaaGreatDoorC8
import Derived.Lib.SliceRun
import Derived.Lib.Bytealg
set_option linter.all false
set_option maxHeartbeats 4000000
set_option maxRecDepth 100000
namespace Go.Proofs.YtgbnlmplkealdaaGreatDoor
open Go.RowKit
variable [Ghost]
def Br (r:Rf):List Value:=[.string r.name,.int .i64 r.id]
def Ra (r:Rf):Prop:=Dy r.id∧r.name.size≤140737488351232
def Dr (B:Nat) (w:World) (v:Value) (l:List Rf):Prop:=
 w.ownsRow B 86 2 v l.length (AN (fun i=>Br (rf l i)) l.length)∧∀r∈l,Ra r
theorem Dr.nil (B:Nat) (w:World):Dr B w (.slice none 0 0) []:=⟨World.ownsRow_nil _ _ _ _,fun r h=>by cases h⟩
theorem Dr.below {B:Nat} {w w':World} {v:Value} {l:List Rf} (h:Dr B w v l) (hb:Below w.heap.size w w'):Dr B w' v l:=⟨DR h.1 hb,h.2⟩
theorem Dr.upd {T:Nat→Prop} {B:Nat} {w w':World} {v:Value} {l:List Rf} (h:Dr B w v l) (hu:AK T w w') (hv:∀g,v.ownBlock=some g→¬T g):Dr B w' v l:=⟨Fx h.1 hu hv,h.2⟩
theorem Dr.mono {B B':Nat} {w:World} {v:Value} {l:List Rf} (h:Dr B w v l) (hB:B'≤B):Dr B' w v l:=⟨Lg h.1 hB,h.2⟩
theorem Dr.shape {B:Nat} {w:World} {v:Value} {l:List Rf} (h:Dr B w v l):∃a c,v=.slice a l.length c:=JH h.1
theorem Dr.block {B:Nat} {w:World} {v:Value} {l:List Rf} (h:Dr B w v l) {g:Nat} (hg:v.ownBlock=some g):B≤g∧g<w.heap.size:=h.1.lt g hg
theorem Dr.refs {B:Nat} {w:World} {v:Value} {l:List Rf} (h:Dr B w v l) (hl:l.length*24≤140737488351232):AB (fun b=>B≤b∧v.ownBlock=some b) w v l:=
 ⟨Iu h.1 (fun g hg=>⟨(h.block hg).1,hg⟩) hl (fun i hi j u hu=>CJ (cs:=fun i=>Br (rf l i)) (fun _ _=>rfl) i hi j u hu),h.2⟩
theorem Dr.any {B:Nat} {w:World} {v:Value} {l:List Rf} (h:Dr B w v l) (hl:l.length*24≤140737488351232):AB (fun _=>True) w v l:=(h.refs hl).weaken fun _ _=>trivial
theorem TL {l:List Rf} {o:Rf} {i:Nat} (h:i<l.length):rf (l++[o]) i=rf l i:=by
 unfold rf at_;simp only[List.getD_eq_getElem?_getD,List.getElem?_append_left h]
theorem TK {l:List Rf} {o:Rf}:rf (l++[o]) l.length=o:=by
 unfold rf at_;simp
theorem TB (r:Rf):∀u∈Br r,u.oneCell'=true:=by
 intro u hu;simp only[Br,List.mem_cons,List.not_mem_nil,or_false] at hu;rcases hu with rfl|rfl<;>rfl
theorem Qt (l:List Rf) (p:Rf):AN (fun i=>Br (rf (l++[p]) i)) (l++[p]).length=AN (fun i=>Br (rf l i)) l.length++Br p:=by
 rw[List.length_append,List.length_singleton,AN,Bi (fun i hi=>by rw[TL hi]),TK]
theorem CG {ops:Array Oper} {IM:List Oper} {o:Oper} {a:Act} {w:World} {Q:Exit→Act→World→Prop} (hgd:o.guard=none) (s x:Operand)
  (ho:o.op=.call {callee:=.builtin .append,args:=#[s,x],argTypes:=#[32,32]}) {B:Nat} {v:Value} {l:List Rf} {p:Rf}
  (hG:Dr B w v l) (hp:Ra p) (hl:(l.length+1)*24≤140737488351232) (hB:B≤w.heap.size)
  (hs:a.eval s=v) {N:Nat} (hx:a.eval x=.slice (some ⟨N,0,none⟩) 1 1) (hN:N=w.heap.size)
  (h:∀v' w',Dr B w' v' (l++[p])→AK (fun b=>v.ownBlock=some b) w w'→wpList Tryz.prog ops Q IM (a.put o.dst v') w'):
  wpList Tryz.prog ops Q (o::IM) a (w.alloc (.cells #[.string p.name,.int .i64 p.id] 86)):=by
 subst hN;obtain⟨i0,hi,hz0,hz1,hz2⟩:=info_parts Tryz.infoRef;refine wpList_append_own_at _ hgd s x 32 ho B 86 i0 _ 2 24 Tryz.underlying32 hi hz0 hz1 hz2 rfl (by decide) v l.length _ hs (hG.1.alloc _) ⟨w.heap.size,0,none⟩ 1 1 (Br p) hx rfl
  (World.news_of_block (cs:=#[.string p.name,.int .i64 p.id]) (t:=86) (fr:=(0,0)) (heap_alloc_new w _)) (TB p) ?_ (by omega) (by simp;omega) ?_
 ·unfold maxLen;omega
 ·intro v' w' hown' hgrow _ hat
  refine h v' w' ⟨?_,fun r hr=>?_⟩ (AK.grown ((AK.refl _ _).alloc _) hgrow (fun k hk _=>hk))
  ·rw[Qt,List.length_append,List.length_singleton];exact hown'
  ·rcases List.mem_append.1 hr with hr|hr
   ·exact hG.2 r hr
   ·rw[List.mem_singleton.1 hr];exact hp
theorem VM {S:Nat→Prop} {w:World} {a:Option Addr} {n cap:Nat} {l:List Rf} (h:AB S w (.slice a n cap) l) (hn:0<l.length):
  ∃ad,a=some ad∧∀j u,(AN (fun i=>Br (rf l i)) l.length)[j]?=some u→w.cell? (ad.add j)=some u:=by
 obtain⟨⟨a',cap',hv,h1,h2,h3,h4⟩,_⟩:=h;cases hv;obtain⟨b,off,rfl,hb,hc⟩:=h4 hn;refine⟨_,rfl,fun j u hu=>?_⟩;have hj:j<l.length*2:=by
  rcases Nat.lt_or_ge j (l.length*2) with h|h
  ·exact h
  ·rw[List.getElem?_eq_none (by rw[Bc (sz:=2) fun _ _=>rfl];exact h)] at hu;cases hu
 have hi':j / 2<l.length:=by omega
 have hm:j % 2<(Br (rf l (j / 2))).length:=by show j % 2<2;omega
 have e:=CJ (cs:=fun i=>Br (rf l i)) (sz:=2) (n:=l.length) (fun _ _=>rfl) (j / 2) hi' (j % 2) _ (List.getElem?_eq_getElem hm);rw[show j / 2*2+j % 2=j by omega,hu] at e;have:=hc (j / 2) hi' (j % 2) u (by show(Br (rf l (j / 2)))[j % 2]?=some u;rw[List.getElem?_eq_getElem hm];exact e.symm);rw[show(⟨b,off,none⟩:Addr).add j=⟨b,off+j,none⟩ by unfold Addr.add;split<;>simp_all];rw[show off+j=off+j / 2*2+j % 2 by omega];exact this
theorem Jr (l:List Rf):∀u∈AN (fun i=>Br (rf l i)) l.length,u.oneCell'=true:=Jq fun _ _=>TB _
theorem IU {B:Nat} {w:World} {v mv:Value} {l more:List Rf} {S:Nat→Prop} (ty:TypeId) (hG:Dr B w v l) (h:AB S w mv more)
  (hl:(l.length+more.length)*24≤140737488351232) (hB:B≤w.heap.size):
  ∃v' x,(Builtin.append_ #[32,32] ty #[v,mv]).run Tryz.prog w=.ok v' x∧Dr B x v' (l++more)∧AK (fun b=>v.ownBlock=some b) w x:=by
 obtain⟨i0,hi,hz0,hz1,hz2⟩:=info_parts Tryz.infoRef;have hG':=hG;obtain⟨hown,hok⟩:=hG;have h':=h;obtain⟨⟨a,cap,rfl,hc1,hc2,hc3,_⟩,hok2⟩:=h;have hok3:∀r∈l++more,Ra r:=fun r hr=>by
  rcases List.mem_append.1 hr with hr|hr
  ·exact hok r hr
  ·exact hok2 r hr
 by_cases h0:more.length=0
 ·obtain rfl:more=[]:=List.length_eq_zero_iff.1 h0
  obtain⟨base,sc,hv,hle⟩:∃base sc,v=.slice base l.length sc∧l.length≤sc:=by
   rcases hown.2 with⟨rfl,hn⟩|⟨g,c,cur,rfl,_,_,hn,_⟩
   ·exact⟨none,0,by rw[hn],by omega⟩
   ·exact⟨_,_,rfl,hn⟩
  subst hv;refine⟨_,w,run_append_nothing _ 32 32 ty 86 i0 Tryz.underlying32 hi base l.length sc hle _
   ⟨.inl ⟨_,Tryz.underlying32⟩,fun w'=>by simp[Builtin.lenOf],by cases a<;>simp[Builtin.firstCells]<;>rfl,by cases a<;>simp[Builtin.firstCells]<;>rfl,by simp,by simp⟩,?_,AK.refl _ _⟩
  rw[List.append_nil];exact hG'
 ·obtain⟨ad,rfl,hnews⟩:=VM h' (by omega)
  obtain⟨g,c,x,hr,ho,hg,hor,hlt⟩:=run_append_lies (P:=Tryz.prog) w 32 ty B 86 i0 _ 2 24 Tryz.underlying32 hi hz0 hz1 hz2 rfl (by omega) v l.length _ hown ad more.length cap
   (AN (fun i=>Br (rf more i)) more.length) (Bc fun _ _=>rfl) hnews (Jr _) (by omega) (by unfold maxLen;omega) (by omega) hB _ rfl
  refine⟨_,x,hr,⟨?_,hok3⟩,AK.grown (AK.refl _ _) hg (fun k hk _=>hk)⟩;rw[List.length_append,Df];have e1:AN (fun i=>Br (rf (l++more) i)) l.length=AN (fun i=>Br (rf l i)) l.length:=
   Bi fun i hi=>by
    have:rf (l++more) i=rf l i:=by unfold rf at_;simp only[List.getD_eq_getElem?_getD,List.getElem?_append_left hi]
    rw[this]
  have e2:AN (fun j=>Br (rf (l++more) (l.length+j))) more.length=AN (fun i=>Br (rf more i)) more.length:=
   Bi fun i hi=>by
    have:rf (l++more) (l.length+i)=rf more i:=by
     unfold rf at_;simp only[List.getD_eq_getElem?_getD];rw[List.getElem?_append_right (by omega),show l.length+i-l.length=i by omega]
    rw[this]
  rw[e1,e2];exact ho
theorem Oj (w:World):Dr w.heap.size (w.alloc (.cells #[] 86)) (.slice (some ⟨w.heap.size,0,none⟩) 0 0) []:=
 ⟨World.ownsRow_made w #[] 0 (Nat.le_refl _) (Nat.zero_le _) (by simp),fun r h=>by cases h⟩
theorem Gl (l:List Rf) (v:Value) (S:Nat→Prop) (w:World) (h:AB S w v l):
  Calls Tryz.prog 77 #[v] w fun e w'=>∃v',e=.returned v'∧Dr w.heap.size w' v' l∧Below w.heap.size w w':=by
 have h':=h;obtain⟨a,n,cap,HN,rfl,h1,h2,h3,h4,h5⟩:=h.open;clear h4 h5 h;have q22:∀(w:World) (a:Option Addr) (n c n' c':Nat),(binOp .eql 32 (.slice a n c) (.slice none n' c')).run Tryz.prog w=.ok (.bool a.isNone) w:=fun w a n c n' c'=>Lib.run_eql_slice_nil w _ _ a n c n' c' Tryz.underlying32
 cases a with
 | none=>
  have hl0:l=[]:=by
   obtain⟨⟨a,cap,e,_,_,_,h4⟩,_⟩:=h';cases e;rcases Nat.eq_zero_or_pos l.length with h|h
   ·exact List.length_eq_zero_iff.1 h
   ·obtain⟨b,off,e,_⟩:=h4 h;cases e
  subst hl0
  go_enter Tryz.func77, Tryz.ntmps77
  go_wp2_with fail;go_ret;exact⟨_,rfl,Dr.nil _ _,Below.refl _ _⟩
 |some ad=>
  have hB0:Below w.heap.size w (w.alloc (.cells #[] 86)):=bal;obtain⟨v1,x1,hr1,ho1,hu1⟩:=IU (l:=[]) 32 (Oj w) (h'.below hB0) (by have:=HN.out;simp;omega) hB0.size;have hB1:Below w.heap.size w x1:=hB0.trans (hu1.below (B:=w.heap.size) hB0.size (fun b hb=>((Oj w).block hb).1));rw[List.nil_append] at ho1;have HE:=zh (And.intro ho1 hB1);obtain⟨a1,c1,rfl⟩:=ho1.shape;clear ho1 hB1 hu1 hB0 h'
  go_enter Tryz.func77, Tryz.ntmps77
  go_wp2_with (at_builtin;refine AY rfl (.tmp 5) (.tmp 6) 32 rfl _ _ _ rfl rfl hr1 ?_);go_ret;exact⟨_,rfl,HE.out.1,HE.out.2⟩
theorem NP {B i:Nat} {w:World} {v:Value} {l:List Rf} {r:Rf} (hG:Dr B w v l) (hr:Ra r) (hl:l.length≤1000) (hB:B≤w.heap.size) (hi:i≤l.length) {N:Nat} (hN:N=w.heap.size):
  Calls Tryz.prog 201 #[v,.int .i64 i,.slice (some ⟨N,0,none⟩) 1 1] (w.alloc (.cells #[.string r.name,.int .i64 r.id] 86))
   fun e w'=>∃v',e=.returned v'∧Dr B w' v' (LX l i r)∧AK (fun b=>v.ownBlock=some b) w w'∧(v'.ownBlock=v.ownBlock∨∃k,v'.ownBlock=some k∧w.heap.size≤k):=by
 subst hN;obtain⟨hown,hok⟩:=hG;have hv:∀g,v.ownBlock=some g→g<w.heap.size:=fun g hg=>(hown.lt g hg).2
 refine(RK (xs:=AN (fun j=>Br (rf l j)) l.length) (ys:=Br r) (i:=i) (hown.alloc _) (heap_alloc_new w _) (fun e=>Nat.lt_irrefl _ (hv _ e)) rfl (TB r) (Jr _) hl (by simp;omega) hi).mono ?_;rintro e w' ⟨v',rfl,hown',hgrow,hat⟩;have hu:AK (fun b=>v.ownBlock=some b) w w':=AK.grown ((AK.refl _ _).alloc _) hgrow (fun k hk _=>hk);refine⟨v',rfl,⟨?_,fun x hx=>?_⟩,hu,?_⟩
 ·have hil:(LX l i r).length=l.length+1:=by unfold LX;simp;omega
  rw[hil];have e1:=VE (f:=fun j=>Br (rf l j)) (g:=fun j=>Br (rf (LX l i r) j)) (n:=l.length) (i:=i) (ys:=Br r) (fun _ _=>rfl) hi
   (fun j hj=>by
    have:rf (LX l i r) j=rf l j:=by
     unfold LX rf at_;simp only[List.getD_eq_getElem?_getD];rw[List.append_assoc,List.getElem?_append_left (by rw[List.length_take];omega),List.getElem?_take,if_pos hj]
    simp only[this])
   (by
    have:rf (LX l i r) i=r:=by
     unfold LX rf at_;simp only[List.getD_eq_getElem?_getD];rw[List.append_assoc,List.getElem?_append_right (by rw[List.length_take];omega),List.length_take,show i-min i l.length=0 by omega];rfl
    simp only[this])
   (fun j hj hjn=>by
    have:rf (LX l i r) (j+1)=rf l j:=by
     unfold LX rf at_;simp only[List.getD_eq_getElem?_getD];rw[List.append_assoc,List.getElem?_append_right (by rw[List.length_take];omega),List.length_take,show j+1-min i l.length=(j-i)+1 by omega];show(r::l.drop i)[_]?.getD _=_
     rw[List.getElem?_cons_succ,List.getElem?_drop,show i+(j-i)=j by omega]
    simp only[this])
  rw[←e1];exact hown'
 ·unfold LX at hx
  rcases List.mem_append.1 hx with hx|hx
  ·rcases List.mem_append.1 hx with hx|hx
   ·exact hok x (List.mem_of_mem_take hx)
   ·rw[List.mem_singleton.1 hx];exact hr
  ·exact hok x (List.mem_of_mem_drop hx)
 ·rcases hat with h|⟨k,h,hk⟩
  ·exact .inl h
  ·exact .inr ⟨k,h,by simp at hk;omega⟩
theorem EZ (g:Nat) (t:TypeId):∀(vs:List Value) (o:Nat) (cur:Array Value) (w:World),w.heap[g]?=some (.cells cur t (0,0))→o+vs.length≤cur.size→
  (w.setCells g o vs).heap[g]?=some (.cells (cur.toList.take o++vs++cur.toList.drop (o+vs.length)).toArray t (0,0))
 |[],o,cur,w,hg,_=>by
  simp only[World.setCells,List.append_nil,List.length_nil,Nat.add_zero,List.take_append_drop,Array.toArray_toList];exact hg
 | v::vs,o,cur,w,hg,hl=>by
  simp only[List.length_cons] at hl;rw[World.setCells,EZ g t vs (o+1) (cur.setIfInBounds o v) (w.setCell ⟨g,o,none⟩ v) (Ah hg v) (by simp;omega)];congr 3
  simp only[Array.toList_setIfInBounds,List.length_cons];have hol:o<cur.toList.length:=by simp;omega
  rw[show o+(vs.length+1)=o+1+vs.length by omega];have e1:(cur.toList.set o v).take (o+1)=cur.toList.take o++[v]:=by
   rw[List.set_eq_take_append_cons_drop,if_pos hol];rw[List.take_append,List.length_take,List.take_of_length_le (by rw[List.length_take];omega)];rw[show o+1-min o cur.toList.length=1 by omega];simp
  have e2:(cur.toList.set o v).drop (o+1+vs.length)=cur.toList.drop (o+1+vs.length):=by
   rw[List.drop_set_of_lt (by omega)]
  rw[e1,e2,List.append_assoc (List.take o cur.toList) [v] vs];rfl
theorem EE (g:Nat):∀(vs:List Value) (o:Nat) (w:World),AK (fun b=>b=g) w (w.setCells g o vs)
 |[],_,w=>AK.refl _ _
 |v::vs,o,w=>((AK.refl (fun b=>b=g) w).setCell (p:=⟨g,o,none⟩) (fun _=>rfl) v).trans (EE g vs (o+1) _) (fun _ _ h=>h)
theorem QK (w:World) (ty:TypeId) (g o c:Nat) (h:∀j,j<2→(w.cell? ⟨g,o+j,none⟩).isSome=true) (hf:∀j,j<2→w.frozen? ⟨g,o+j,none⟩=false):
  (Builtin.clear_ #[32] ty #[.slice (some ⟨g,o,none⟩) 1 c]).run Tryz.prog w=.ok (.tuple #[]) (w.setCells g o [.string ⟨#[]⟩,.int .i64 0]):=by
 have hv:∀w,(zeroValue 86).run Tryz.prog w=.ok (.agg #[.string ⟨#[]⟩,.int .i64 0]) w:=fun _=>by kernel_rfl
 have hst:=run_storeCells_cells (P:=Tryz.prog) g o [.string ⟨#[]⟩,.int .i64 0] 0 w (by simpa using h) (by simpa using hf) (by intro v hv';simp at hv';rcases hv' with rfl|rfl<;>rfl);simp only[Nat.add_zero] at hst;have hz:(Builtin.zeroCells (Value.agg #[.string ⟨#[]⟩,.int .i64 0]).cells 1).toList=[.string ⟨#[]⟩,.int .i64 0]:=by kernel_rfl
 simp[Builtin.clear_,run_underlying Tryz.underlying32,hv,hz,hst]
theorem FH {B i:Nat} {w:World} {v:Value} {l:List Rf} (hG:Dr B w v l) (hl:l.length≤1000) (hi:i<l.length):
  Calls Tryz.prog 182 #[v,.int .i64 i,.int .i64 ((i:Int)+1)] w
   fun e w'=>∃v',e=.returned v'∧Dr B w' v' (without l i)∧AK (fun b=>v.ownBlock=some b) w w'∧v'.ownBlock=v.ownBlock:=by
 obtain⟨i0,hi0,hz0,hz1,hz2⟩:=info_parts Tryz.infoRef;obtain⟨⟨hxl,hown⟩,hok⟩:=hG;rcases hown with⟨rfl,h0⟩|⟨g,cap,cur,rfl,hBg,hg,hnc,hcm,hcs,hxs⟩
 ·omega
 obtain⟨n,hn⟩:∃n,n=l.length:=⟨_,rfl⟩;rw[←hn] at hl hi hnc hxs hxl⊢;obtain⟨xs,hx⟩:∃xs,xs=AN (fun i=>Br (rf l i)) n:=⟨_,rfl⟩;rw[←hx] at hxs hxl;have hx1:∀u∈xs,u.oneCell'=true:=by rw[hx,hn];exact Jr l
 obtain⟨news,hnews⟩:∃news,news=xs.drop ((i+1)*2):=⟨_,rfl⟩;have hnl:news.length=(n-(i+1))*2:=by rw[hnews,List.length_drop,hxl];omega
 have hn1:∀u∈news,u.oneCell'=true:=fun u hu=>hx1 u (by rw[hnews] at hu;exact List.mem_of_mem_drop hu)
 have hcl:∀j,j<cap*2→(w.cell? ⟨g,j,none⟩).isSome=true:=fun j hj=>by
  rw[World.cell?];simp[hg,hcs,hj]
 have hfr:∀j,w.frozen? ⟨g,j,none⟩=false:=fun j=>Ad hg
 have hgx:∀j u,xs[j]?=some u→w.cell? ⟨g,j,none⟩=some u:=fun j u hu=>by
  refine Aa hg ?_;rw[←hxs,List.getElem?_take] at hu;split at hu
  ·simpa using hu
  ·cases hu
 obtain⟨A,hA,hsrc⟩:∃A:Addr,(if cap=i+1 then some (⟨g,0,none⟩:Addr) else some ⟨g,(i+1)*2,none⟩)=some A∧Hid (∀t u,news[t]?=some u→w.drew.cell? (A.add t)=some u):=by
  by_cases h:cap=i+1
  ·refine⟨⟨g,0,none⟩,by simp[h],fun t u hu=>?_⟩
   have h0:news.length=0:=by rw[hnl];omega
   rw[List.length_eq_zero_iff.1 h0] at hu;simp at hu
  ·refine⟨⟨g,(i+1)*2,none⟩,by simp[h],fun t u hu=>?_⟩
   rw[hnews,List.getElem?_drop] at hu;have:(⟨g,(i+1)*2,none⟩:Addr).add t=⟨g,(i+1)*2+t,none⟩:=by unfold Addr.add;split<;>simp_all
   rw[this];exact hgx _ u hu
 obtain⟨W1,hW1⟩:∃W1,W1=w.drew.setCells g (i*2) news:=⟨_,rfl⟩;have hu1:AK (fun b=>b=g) w W1:=by rw[hW1];exact((AK.refl _ w).drew).trans (EE g news _ _) (fun _ _ h=>h)
 have hW1g:W1.heap[g]?=some (.cells (cur.toList.take (i*2)++news++cur.toList.drop (i*2+news.length)).toArray 86 (0,0)):=by
  rw[hW1];exact EZ g _ news (i*2) cur w.drew hg (by rw[hnl,hcs];omega)
 have hcurl:cur.toList.length=cap*2:=by simp[hcs]
 obtain⟨C1,hC1⟩:∃C1:List Value,C1=cur.toList.take (i*2)++news++cur.toList.drop (i*2+news.length):=⟨_,rfl⟩;rw[←hC1] at hW1g;have hC1l:C1.length=cap*2:=by rw[hC1];simp only[List.length_append,List.length_take,List.length_drop,hcurl,hnl];omega
 have hclr:∀ty,(Builtin.clear_ #[32] ty #[.slice (some ⟨g,(n-1)*2,none⟩) 1 (cap-(n-1))]).run Tryz.prog W1=.ok (.tuple #[]) (W1.setCells g ((n-1)*2) [.string ⟨#[]⟩,.int .i64 0]):=fun ty=>
  QK W1 ty g ((n-1)*2) (cap-(n-1)) (fun j hj=>by rw[World.cell?];simp only[hW1g];simp[hC1l];omega) (fun j hj=>Ad hW1g)
 have hW2g:=EZ g 86 [.string ⟨#[]⟩,.int .i64 0] ((n-1)*2) C1.toArray W1 hW1g (by simp[hC1l];omega);have hu2:AK (fun b=>b=g) w (W1.setCells g ((n-1)*2) [.string ⟨#[]⟩,.int .i64 0]):=hu1.trans (EE g _ _ _) (fun _ _ h=>h);obtain⟨W2,hW2⟩:∃W2,W2=W1.setCells g ((n-1)*2) [.string ⟨#[]⟩,.int .i64 0]:=⟨_,rfl⟩;rw[←hW2] at hW2g hu2 hclr;have hCend:(List.take ((n-1)*2) C1++([.string ⟨#[]⟩,.int .i64 0]:List Value)++List.drop ((n-1)*2+2) C1).take ((n-1)*2)=AN (fun j=>Br (rf (without l i) j)) (n-1):=by
  rw[List.append_assoc,List.take_append_of_le_length (by rw[List.length_take];omega),List.take_take,Nat.min_self];have e1:C1.take ((n-1)*2)=xs.take (i*2)++xs.drop ((i+1)*2):=by
   rw[hC1];have hti:cur.toList.take (i*2)=xs.take (i*2):=by rw[←hxs,List.take_take,Nat.min_eq_left (by omega)]
   have hl2:(cur.toList.take (i*2)++news).length=(n-1)*2:=by rw[List.length_append,List.length_take,hcurl,hnl];omega
   rw[←hl2,List.take_left,hti,hnews]
  rw[e1];obtain⟨k,hk⟩:∃k,n=i+(1+k):=⟨n-i-1,by omega⟩;have hfl:(AN (fun i=>Br (rf l i)) i).length=i*2:=Bc fun _ _=>rfl
  have hfl2:(AN (fun j=>Br (rf l j)) (i+1)).length=(i+1)*2:=Bc fun _ _=>rfl
  have a1:xs.take (i*2)=AN (fun j=>Br (rf l j)) i:=by
   rw[hx,hk,Df,←hfl,List.take_left]
  have a2:xs.drop ((i+1)*2)=AN (fun j=>Br (rf l (i+1+j))) k:=by
   rw[hx,show n=(i+1)+k by omega,Df,←hfl2,List.drop_left]
  rw[a1,a2,show n-1=i+k by omega,Df];congr 1
  ·exact Bi fun j hj=>by rw[DO (by omega),if_pos hj]
  ·exact Bi fun j hj=>by rw[DO (by omega),if_neg (by omega),show i+j+1=i+1+j by omega]
 have hres:Dr B W2 (.slice (some ⟨g,0,none⟩) (n-1) cap) (without l i)∧AK (fun b=>(Value.slice (some ⟨g,0,none⟩) n cap).ownBlock=some b) w W2:=by
  refine⟨⟨⟨by rw[DN (by omega),←hn];exact Bc fun _ _=>rfl,.inr ⟨g,cap,_,by rw[DN (by omega),←hn],hBg,hW2g,by rw[DN (by omega)];omega,hcm,?_,?_⟩⟩,fun r hr=>?_⟩,hu2.weaken (fun b hb e=>by subst e;rfl)⟩
  ·simp only[List.size_toArray,List.length_append,List.length_take,List.length_drop,hC1l,List.length_cons,List.length_nil];omega
  ·rw[DN (by omega),←hn]
   have:=hCend;simpa using this
  ·unfold without at hr
   rcases List.mem_append.1 hr with hr|hr
   ·exact hok r (List.mem_of_mem_take hr)
   ·exact hok r (List.mem_of_mem_drop hr)
 have Hres:=zh hres;have hW:Hid (W1=w.drew.setCells g (i*2) news):=hW1;have HW2:Hid (W2=W1.setCells g ((n-1)*2) [.string ⟨#[]⟩,.int .i64 0]):=hW2;have s1:Hid (news.length=(n-(i+1))*2):=hnl;have s2:=zh hn1;have s3:Hid (∀t,t<news.length→(w.drew.cell? ⟨g,0+i*2+t,none⟩).isSome=true∧w.drew.frozen? ⟨g,0+i*2+t,none⟩=false):=fun t ht=>by
  rw[hnl] at ht;exact⟨by rw[Nat.zero_add];exact hcl _ (by omega),hfr _⟩
 have hm63:cap≤9223372036854775807:=by unfold maxLen at hcm;omega
 have hne:¬((i:Int)=(i:Int)+1):=by omega
 have hw1:=Be (n:=(i:Int)+1) (by omega);have hi1:(i:Int)+1≤(n:Int):=by omega
 have hi2:=zk i;have hi3:(i:Int)≤(i:Int)+1:=by omega
 have hi4:(0:Int)≤(i:Int)+1:=by omega
 have hi5:(i:Int)≤(cap:Int):=by omega
 have hi6:(n:Int)≤(cap:Int):=by omega
 have htn:((i:Int)+1).toNat=i+1:=by omega
 have hmm:i+(n-(i+1))=n-1:=by omega
 have hm1:n-(n-1)=1:=by omega
 have hm2:¬(cap=n-1):=by omega
 have hm3:((n-1:Nat):Int)≤(n:Int):=by omega
 have hm4:¬(cap=i+1∧False):=by simp
 have hroom:i+(n-(i+1))≤cap:=by omega
 have HN:=zh hn;clear hn hW1 hW2 hCend hW2g hu2 hu1 hW1g hC1l hC1 hcl hfr hgx hx1 hn1 hnl hnews hx hxs hxl hg hcs hcurl hcm hz0 hz2 hok hres
 go_enter Tryz.func182, Tryz.ntmps182
 go_wp2_with fail;go_region_law (refine step_append_room rfl (.tmp 22) (.tmp 25) 32 rfl 86 i0 2 Tryz.underlying32 hi0 hz1 g 0 i cap (by simp[Act.eval,Act.put]) A (n-(i+1)) (cap-(i+1)) news (by simp[Act.eval,Act.put,hA]) s1.out hsrc.out s2.out hroom s3.out ?_;rw[Nat.zero_add,←hW.out])
 go_wp2;go_ret;exact⟨_,rfl,Hres.out.1,Hres.out.2,rfl⟩
variable [Ghost]
theorem Nz:∀(a b:List UInt8),Lib.compareBytes a b<0↔Op.bytesLess a b=true
 |[],[]=>by simp[Lib.compareBytes,Op.bytesLess]
 |[],_::_=>by simp[Lib.compareBytes,Op.bytesLess]
 |_::_,[]=>by simp[Lib.compareBytes,Op.bytesLess]
 | a::xs,b::ys=>by
  have ih:=Nz xs ys;simp only[Lib.compareBytes,Op.bytesLess,Bool.or_eq_true,decide_eq_true_eq,Bool.and_eq_true,beq_iff_eq];by_cases h1:a<b
  ·simp[h1]
  ·by_cases h2:b<a
   ·have h3:¬a=b:=by rintro rfl;exact h1 h2
    simp[h1,h2,h3]
   ·have h3:a=b:=by
     apply UInt8.toNat_inj.1
     simp only[UInt8.lt_iff_toNat_lt] at*;omega
    simp[h3,ih]
def Jc (a b:ByteArray):Int:=Lib.compareBytes a.data.toList b.data.toList
theorem MZ (a b:ByteArray):Jc a b<0↔Au a b=true:=by
 unfold Jc Au;rw[Nz,ByteArray.toList_eq,ByteArray.toList_eq]
theorem Lv {a b c:ByteArray} (h1:Au a b=false) (h2:Au b c=false):Au a c=false:=by
 cases h:Au a c
 ·rfl
 ·by_cases e:a=b
  ·subst e;rw[h] at h2;cases h2
  ·have h3:Au b a=true:=by
    cases e3:Au b a
    ·exact absurd (FG h1 e3) e
    ·rfl
   have h4:=Kv _ _ _ h3 h;unfold Au at h2;rw[h2] at h4;cases h4
end Go.Proofs.YtgbnlmplkealdaaGreatDoor
