
/- CluE: a row of replicas of the call's own. -/
import Derived.Test.YtgbnlmplkealdaaGreatDoorC20
import Derived.Test.YtgbnlmplkealdaaGreatDoorC21
set_option linter.all false
set_option maxHeartbeats 4000000
set_option maxRecDepth 100000
namespace Go.Proofs.YtgbnlmplkealdaaGreatDoor
open Go.RowKit
variable [Ghost]
theorem Tryz.infoRep:(Tryz.prog.info? 34).map (fun i=>(i.zero,i.size,i.bytes))=some (some (.agg #[.slice none 0 0,.slice none 0 0,.int .i64 0,.int .i64 0,.slice none 0 0,.slice none 0 0,.bool false]),7,120):=by kernel_rfl
def BD (S:Nat→Prop) (B:Nat) (w:World) (v:Value) (l:List Am):Prop:=
 ∃vs:Nat→RV,(∀b,S b→b<w.heap.size∧v.ownBlock≠some b)∧w.ownsRow B 34 7 v l.length (AN (fun i=>Ba (Ag l i) (vs i)) l.length)∧
  ∀i,i<l.length→ID S w (Ag l i) (vs i)
theorem BD.nil (S:Nat→Prop) (B:Nat) (w:World) (hS:∀b,S b→b<w.heap.size):BD S B w (.slice none 0 0) []:=
 ⟨fun _=>⟨.nilFunc,.nilFunc,.nilFunc,.nilFunc⟩,fun b hb=>⟨hS b hb,by simp[Value.ownBlock]⟩,World.ownsRow_nil _ _ _ _,fun i hi=>by simp at hi⟩
theorem BD.below {S:Nat→Prop} {B:Nat} {w w':World} {v:Value} {l:List Am} (h:BD S B w v l) (hb:Below w.heap.size w w'):BD S B w' v l:=by
 obtain⟨vs,h1,h2,h3⟩:=h;exact⟨vs,fun b hS=>⟨Nat.lt_of_lt_of_le (h1 b hS).1 hb.size,(h1 b hS).2⟩,DR h2 hb,fun i hi=>(h3 i hi).below hb⟩
theorem BD.upd {S T:Nat→Prop} {B:Nat} {w w':World} {v:Value} {l:List Am} (h:BD S B w v l) (hu:AK T w w') (hS:∀b,S b→¬T b) (hv:∀g,v.ownBlock=some g→¬T g):BD S B w' v l:=by
 obtain⟨vs,h1,h2,h3⟩:=h;exact⟨vs,fun b hb=>⟨Nat.lt_of_lt_of_le (h1 b hb).1 hu.size,(h1 b hb).2⟩,Fx h2 hu hv,fun i hi=>(h3 i hi).upd hu hS⟩
theorem BD.shape {S:Nat→Prop} {B:Nat} {w:World} {v:Value} {l:List Am} (h:BD S B w v l):∃a c,v=.slice a l.length c:=let⟨_,_,h2,_⟩:=h;JH h2
theorem BD.block {S:Nat→Prop} {B:Nat} {w:World} {v:Value} {l:List Am} (h:BD S B w v l) {g:Nat} (hg:v.ownBlock=some g):B≤g∧g<w.heap.size:=let⟨_,_,h2,_⟩:=h;h2.lt g hg
theorem BD.lt {S:Nat→Prop} {B:Nat} {w:World} {v:Value} {l:List Am} (h:BD S B w v l) {b:Nat} (hb:S b):b<w.heap.size:=let⟨_,h1,_,_⟩:=h;(h1 b hb).1
theorem BD.reps {S S':Nat→Prop} {B:Nat} {w:World} {v:Value} {l:List Am} (h:BD S B w v l) (hl:l.length*120≤140737488351232) (hS:∀b,S b→S' b) (hB:∀b,v.ownBlock=some b→S' b):Az S' w v l:=by
 obtain⟨vs,h1,h2,h3⟩:=h;refine⟨vs,Iu h2 hB hl (fun i hi j u hu=>?_),fun i hi=>(h3 i hi).weaken hS⟩;exact CJ (cs:=fun i=>Ba (Ag l i) (vs i)) (fun _ _=>rfl) i hi j u hu
theorem BD.any {S:Nat→Prop} {B:Nat} {w:World} {v:Value} {l:List Am} (h:BD S B w v l) (hl:l.length*120≤140737488351232):Az (fun _=>True) w v l:=h.reps hl (fun _ _=>trivial) (fun _ _=>trivial)
theorem BD.weaken {S S':Nat→Prop} {B B':Nat} {w:World} {v:Value} {l:List Am} (h:BD S B w v l) (hS:∀b,S b→S' b) (hS':∀b,S' b→b<w.heap.size∧v.ownBlock≠some b) (hB:B'≤B):BD S' B' w v l:=by
 obtain⟨vs,h1,h2,h3⟩:=h;exact⟨vs,hS',Lg h2 hB,fun i hi=>(h3 i hi).weaken hS⟩
theorem BD.own {S:Nat→Prop} {B:Nat} {w:World} {v:Value} {l:List Am} (h:BD S B w v l) {b:Nat} (hb:S b):v.ownBlock≠some b:=let⟨_,h1,_,_⟩:=h;(h1 b hb).2
theorem BD.list {S:Nat→Prop} {B:Nat} {w:World} {v:Value} {l l':List Am} (e:l'=l) (h:BD S B w v l'):BD S B w v l:=e ▸ h
theorem BD.free {S:Nat→Prop} {B:Nat} {w:World} {l:List Am} {g o n c:Nat} (h:BD S B w (.slice (some ⟨g,o,none⟩) n c) l) (j:Nat):w.frozen? ⟨g,j,none⟩=false:=by
 obtain⟨vs,h1,⟨_,h2⟩,h3⟩:=h;rcases h2 with⟨e,_⟩|⟨g',cap,cur,e,_,hh,_⟩
 ·cases e
 ·cases e;exact Ad hh
theorem Ov {l m:List Am} {i:Nat} (h:i<l.length):Ag (l++m) i=Ag l i:=by
 unfold Ag at_;simp only[List.getD_eq_getElem?_getD,List.getElem?_append_left h]
theorem Ou {l m:List Am} {i:Nat}:Ag (l++m) (l.length+i)=Ag m i:=by
 unfold Ag at_;simp only[List.getD_eq_getElem?_getD];rw[List.getElem?_append_right (by omega),show l.length+i-l.length=i by omega]
theorem XR {S:Nat→Prop} {w:World} {r:Am} {x:RV} (h:ID S w r x):∀u∈Ba r x,u.oneCell'=true:=by
 obtain⟨y,rfl⟩:=h.ra;intro u hu;simp only[Ba,RA.rv,List.mem_cons,List.not_mem_nil,or_false] at hu;rcases hu with rfl|rfl|rfl|rfl|rfl|rfl|rfl<;>rfl
theorem VO {S:Nat→Prop} {w:World} {a:Option Addr} {n cap:Nat} {l:List Am} {lvs:Nat→RV} (h:Sl S w (.slice a n cap) 7 120 l.length (fun i=>Ba (Ag l i) (lvs i))) (hn:0<l.length):
  ∃ad,a=some ad∧∀j u,(AN (fun i=>Ba (Ag l i) (lvs i)) l.length)[j]?=some u→w.cell? (ad.add j)=some u:=by
 obtain⟨a',cap',hv,h1,h2,h3,h4⟩:=h;cases hv;obtain⟨b,off,rfl,hb,hc⟩:=h4 hn;refine⟨_,rfl,fun j u hu=>?_⟩;have hj:j<l.length*7:=by
  rcases Nat.lt_or_ge j (l.length*7) with h|h
  ·exact h
  ·rw[List.getElem?_eq_none (by rw[Bc (sz:=7) fun _ _=>rfl];exact h)] at hu;cases hu
 have hi':j / 7<l.length:=by omega
 have hm:j % 7<(Ba (Ag l (j / 7)) (lvs (j / 7))).length:=by show j % 7<7;omega
 have e:=CJ (cs:=fun i=>Ba (Ag l i) (lvs i)) (sz:=7) (n:=l.length) (fun _ _=>rfl) (j / 7) hi' (j % 7) _ (List.getElem?_eq_getElem hm);rw[show j / 7*7+j % 7=j by omega,hu] at e;have:=hc (j / 7) hi' (j % 7) u (by rw[List.getElem?_eq_getElem hm];exact e.symm);rw[show(⟨b,off,none⟩:Addr).add j=⟨b,off+j,none⟩ by unfold Addr.add;split<;>simp_all];rw[show off+j=off+j / 7*7+j % 7 by omega];exact this
theorem Ga {B:Nat} {w:World} {v mv:Value} {l more:List Am} {S S1:Nat→Prop} (ty:TypeId) (hG:BD S1 B w v l) (h:Az S w mv more) (hS:∀b,S b→b<w.heap.size∧v.ownBlock≠some b)
  (hl:(l.length+more.length)*120≤140737488351232) (hB:B≤w.heap.size):
  ∃v' x,(Builtin.append_ #[22,22] ty #[v,mv]).run Tryz.prog w=.ok v' x∧BD (fun b=>S1 b∨S b) B x v' (l++more)∧AK (fun b=>v.ownBlock=some b) w x:=by
 obtain⟨i0,hi,hz0,hz1,hz2⟩:=info_parts Tryz.infoRep;have hG':=hG;obtain⟨lvs1,h1,hown,h3⟩:=hG;obtain⟨lvs,hsl,h5⟩:=h;have hsl':=hsl;obtain⟨a,cap,rfl,hc1,hc2,hc3,_⟩:=hsl';by_cases h0:more.length=0
 ·obtain rfl:more=[]:=List.length_eq_zero_iff.1 h0
  obtain⟨base,sc,hv,hle⟩:∃base sc,v=.slice base l.length sc∧l.length≤sc:=by
   rcases hown.2 with⟨rfl,hn⟩|⟨g,c,cur,rfl,_,_,hn,_⟩
   ·exact⟨none,0,by rw[hn],by omega⟩
   ·exact⟨_,_,rfl,hn⟩
  subst hv;refine⟨_,w,run_append_nothing _ 22 22 ty 34 i0 Tryz.underlying22 hi base l.length sc hle _
   ⟨.inl ⟨_,Tryz.underlying22⟩,fun w'=>by simp[Builtin.lenOf],by cases a<;>simp[Builtin.firstCells]<;>rfl,by cases a<;>simp[Builtin.firstCells]<;>rfl,by simp,by simp⟩,?_,AK.refl _ _⟩
  rw[List.append_nil];exact hG'.weaken (fun _ h=>.inl h) (fun b hb=>by rcases hb with hb|hb;exact h1 b hb;exact hS b hb) (Nat.le_refl _)
 ·obtain⟨ad,rfl,hnews⟩:=VO hsl (by omega)
  obtain⟨g,c,x,hr,ho,hg,hor,hlt⟩:=run_append_lies (P:=Tryz.prog) w 22 ty B 34 i0 _ 7 120 Tryz.underlying22 hi hz0 hz1 hz2 rfl (by omega) v l.length _ hown ad more.length cap
   (AN (fun i=>Ba (Ag more i) (lvs i)) more.length) (Bc fun _ _=>rfl) hnews (Jq fun i hi=>XR (h5 i hi)) (by omega) (by unfold maxLen;omega) (by omega) hB _ rfl
  have hu:AK (fun b=>v.ownBlock=some b) w x:=AK.grown (AK.refl _ _) hg (fun k hk _=>hk);refine⟨_,x,hr,⟨fun i=>if i<l.length then lvs1 i else lvs (i-l.length),fun b hb=>?_,?_,fun i hi=>?_⟩,hu⟩
  ·have hb':b<w.heap.size∧v.ownBlock≠some b:=by rcases hb with hb|hb;exact h1 b hb;exact hS b hb
   refine⟨Nat.lt_of_lt_of_le hb'.1 hu.size,fun e=>?_⟩;have e':g=b:=by simpa[Value.ownBlock] using e
   rcases hor with h|h
   ·exact hb'.2 (by rw[h,e'])
   ·omega
  ·rw[List.length_append,Df]
   have e1:AN (fun i=>Ba (Ag (l++more) i) (if i<l.length then lvs1 i else lvs (i-l.length))) l.length=AN (fun i=>Ba (Ag l i) (lvs1 i)) l.length:=
    Bi fun i hi=>by rw[Ov hi,if_pos hi]
   have e2:AN (fun j=>Ba (Ag (l++more) (l.length+j)) (if l.length+j<l.length then lvs1 (l.length+j) else lvs (l.length+j-l.length))) more.length=AN (fun i=>Ba (Ag more i) (lvs i)) more.length:=
    Bi fun i hi=>by rw[Ou,if_neg (by omega),show l.length+i-l.length=i by omega]
   rw[e1,e2];exact ho
  ·rw[List.length_append] at hi
   by_cases hlt:i<l.length
   ·simp only[Ov hlt,if_pos hlt]
    exact((h3 i hlt).upd hu (fun b hb e=>(h1 b hb).2 e)).weaken fun _ h=>.inl h
   ·obtain⟨j,rfl⟩:∃j,i=l.length+j:=⟨i-l.length,by omega⟩
    simp only[Ou,if_neg hlt,show l.length+j-l.length=j by omega];exact((h5 j (by omega)).upd hu (fun b hb e=>(hS b hb).2 e)).weaken fun _ h=>.inr h
theorem DA {l:List Am} {i j:Nat} {r:Am} (hj:j<l.length):Ag (l.set i r) j=if j=i then r else Ag l j:=by
 unfold Ag at_;simp only[List.getD_eq_getElem?_getD,List.getElem?_set];by_cases e:i=j
 ·subst e;simp[hj]
 ·rw[if_neg e,if_neg (fun h=>e h.symm)]
theorem BD.set {S S2:Nat→Prop} {B:Nat} {w:World} {l:List Am} {r:Am} {x:RV} {g n c i:Nat} (h:BD S B w (.slice (some ⟨g,0,none⟩) n c) l) (hi:i<l.length) (hr:ID S2 w r x)
  (h2:∀b,S2 b→b<w.heap.size∧b≠g):
  BD (fun b=>S b∨S2 b) B (w.setCells g (i*7) (Ba r x)) (.slice (some ⟨g,0,none⟩) n c) (l.set i r)∧AK (fun b=>b=g) w (w.setCells g (i*7) (Ba r x)):=by
 have hu:=EE g (Ba r x) (i*7) w;refine⟨?_,hu⟩;obtain⟨vs,h1,⟨hxl,hown⟩,h3⟩:=h;rcases hown with⟨e,_⟩|⟨g',cap,cur,e,hBg,hg,hnc,hcm,hcs,hxs⟩
 ·cases e
 cases e;have hcl:cur.toList.length=c*7:=by simp[hcs]
 have hw:=EZ g 34 (Ba r x) (i*7) cur w hg (by rw[hcs];show i*7+7≤_;omega);refine⟨fun j=>if j=i then x else vs j,fun b hb=>?_,⟨?_,.inr ⟨g,c,_,by rw[List.length_set],hBg,hw,by rw[List.length_set];exact hnc,hcm,?_,?_⟩⟩,fun j hj=>?_⟩
 ·rcases hb with hb|hb
  ·exact⟨Nat.lt_of_lt_of_le (h1 b hb).1 hu.size,(h1 b hb).2⟩
  ·exact⟨Nat.lt_of_lt_of_le (h2 b hb).1 hu.size,fun e=>(h2 b hb).2 (by simpa[Value.ownBlock,eq_comm] using e)⟩
 ·exact Bc fun _ _=>rfl
 ·simp only[List.size_toArray,List.length_append,List.length_take,List.length_drop,hcl];show min (i*7) (c*7)+7+(c*7-(i*7+7))=c*7;omega
 ·rw[List.length_set]
  have e1:AN (fun j=>Ba (Ag (l.set i r) j) (if j=i then x else vs j)) l.length=AN (fun j=>if j=i then Ba r x else Ba (Ag l j) (vs j)) l.length:=
   Bi fun j hj=>by
    rw[DA hj];by_cases e:j=i
    ·rw[if_pos e,if_pos e,if_pos e]
    ·rw[if_neg e,if_neg e,if_neg e]
  rw[e1,←Xs (cs:=fun j=>Ba (Ag l j) (vs j)) (ys:=Ba r x) (sz:=7) (n:=l.length) (i:=i) (fun _ _=>rfl) hi,←hxs];simp only[List.toList_toArray];exact Yo (ys:=Ba r x) (A:=cur.toList) (a:=i*7) (m:=7) (n:=l.length*7) rfl (by omega) (by rw[hcl];omega)
 ·rw[List.length_set] at hj
  rw[DA hj];by_cases e:j=i
  ·subst e
   simp only[if_true];exact(Ax.upd hr hu (fun b hb e=>(h2 b hb).2 e)).weaken fun _ h=>.inr h
  ·simp only[if_neg e]
   exact(Ax.upd (h3 j hj) hu (fun b hb e=>(h1 b hb).2 (by subst e;rfl))).weaken fun _ h=>.inl h
theorem Sr {S:Nat→Prop} (w:World) (r:Am) (x:RV) (t:TypeId) (N:Nat) (hN:N=w.heap.size) (h:ID S w r x):
  Az (fun b=>S b∨b=N) (w.alloc (.cells (Ba r x).toArray t)) (.slice (some ⟨N,0,none⟩) 1 1) [r]:=by
 subst hN;refine⟨fun _=>x,⟨some ⟨w.heap.size,0,none⟩,1,rfl,Nat.le_refl _,by omega,by simp,fun _=>⟨w.heap.size,0,rfl,⟨.inr rfl,MX.of_block (heap_alloc_new w _)⟩,fun i hi j u hu=>?_⟩⟩,fun i hi=>?_⟩
 ·obtain rfl:i=0:=by simp at hi;omega
  refine Aa (heap_alloc_new w _) ?_;have hu':(Ba r x)[j]?=some u:=hu;simpa using hu'
 ·obtain rfl:i=0:=by simp at hi;omega
  exact(Ax.below h bal).weaken fun _ h=>.inl h
theorem BD.shape3 {S:Nat→Prop} {B:Nat} {w:World} {v:Value} {l:List Am} (h:BD S B w v l):∃a n c,v=.slice a n c:=let⟨a,c,e⟩:=h.shape;⟨a,_,c,e⟩
def DP (B:Nat) (w:World) (v:Value) (l:List Am):Prop:=∃F:Nat→Prop,BD F B w v l∧∀b,F b→B≤b
theorem Kj {l:List Am} {k:Nat} (h:k<l.length):l.take (k+1)=l.take k++[Ag l k]:=by
 rw[List.take_succ_eq_append_getElem h,EA h]
theorem Kt (l:List Am) (v:Value) (S:Nat→Prop) (w:World) (h:Az S w v l):
  Calls Tryz.prog 39 #[.agg #[v]] w fun e w'=>∃v',e=.returned (.agg #[v'])∧DP w.heap.size w' v' l∧Below w.heap.size w w':=by
 obtain⟨a,n,cap,fr,HN,rfl,h1,h2,h3,h4,h5⟩:=h.open;clear h;have HL:=zh (show l.take n=l by rw[HN.out];exact List.take_length);have HT:=zh (fun k (hk:k<n)=>Kj (l:=l) (k:=k) (by rw[←HN.out];exact hk));have HTl:=zh (fun k=>show(l.take k).length≤k by rw[List.length_take];omega);obtain⟨w3,hw3⟩:∃w3,w3=((w.alloc (.cells #[.slice a n cap] 24)).alloc (.cells #[.slice none 0 0] 24)).alloc (.cells #[.slice none 0 0] 24):=⟨_,rfl⟩;have hs3:w3.heap.size=w.heap.size+3:=by rw[hw3];simp
 have hb3:Below w.heap.size w w3:=by rw[hw3];exact Fd [_,_,_] w
 have hcl3:=Ib w w3 (w.heap.size+2) (by omega) (by omega) hb3;have g0:w3.heap[w.heap.size]?=some (.cells #[.slice a n cap] 24 (0,0)):=by rw[hw3];exact EM [_,_,_] w 0 _ rfl
 have g1:w3.heap[w.heap.size+1]?=some (.cells #[.slice none 0 0] 24 (0,0)):=by rw[hw3];exact EM [_,_,_] w 1 _ rfl
 have g2:w3.heap[w.heap.size+2]?=some (.cells #[.slice none 0 0] 24 (0,0)):=by rw[hw3];exact EM [_,_,_] w 2 _ rfl
 obtain⟨R,hR⟩:∃R:World→Prop,R=fun x=>Below (w.heap.size+2) w3 x:=⟨_,rfl⟩
 rw[←hR] at hcl3;have hRb:=hcl3.below;have hRn:=hcl3.next
 have hR3:In R w3:=by rw[hR];exact Below.refl _ _
 have HRu:=zh (fun x y (T:Nat→Prop) (hx:In R x) (hu:AK T x y) (hT:∀b,T b→w.heap.size+2≤b)=>show In R y by rw[hR] at hx⊢;exact Below.trans (hx:Below _ _ _) (hu.below (by have:=Below.size (hx:Below _ _ _);omega) hT));have HRs:=zh (fun x (hx:In R x)=>show w.heap.size+3≤x.heap.size by rw[hR] at hx;have:=Below.size (hx:Below _ _ _);omega);have c0:∀x,In R x→x.cell? ⟨w.heap.size,0,none⟩=some (.slice a n cap):=fun x hx=>by rw[hR] at hx;exact Aa (j:=0) ((Below.block (hx:Below _ _ _) _ (by omega)).trans g0) rfl
 have HZ:=zh (fun x (hx:In R x)=>show x.heap[w.heap.size+1]?=some (.cells #[.slice none 0 0] 24 (0,0)) by rw[hR] at hx;exact(Below.block (hx:Below _ _ _) _ (by omega)).trans g1);have cc:=c0 _ hR3;have HI0:=zh (show∃va vn vc,DP (w.heap.size+3) w3 (.slice va vn vc) (l.take 0)∧w3.heap[w.heap.size+2]?=some (.cells #[.slice va vn vc] 24 (0,0)) from⟨_,_,_,⟨fun _=>False,BD.nil _ _ _ (fun _ h=>h.elim),fun _ h=>h.elim⟩,g2⟩);clear hR hcl3 g0 g1 g2 hs3 hb3;have Hw3:=zh hw3;rw[hw3] at cc;clear hw3
 go_enter Tryz.func39, Tryz.ntmps39
 go_wp2_with fail;rw[←Hw3.out];clear cc;go_loopw [9] (fun i wr=>∃k:Nat,k≤n∧i=.int .i64 k∧Hid (∃va vn vc,DP (w.heap.size+3) wr (.slice va vn vc) (l.take k)∧wr.heap[w.heap.size+2]?=some (.cells #[.slice va vn vc] 24 (0,0)))∧In R wr) (fun i _=>n-(intOf i).toNat)
 case atStart=>exact⟨0,by omega,rfl,HI0.out,hR3⟩
 obtain⟨k,hk,rfl,HI,hRw⟩:=hrel;clear hR3 HI0;obtain⟨va,vn,vc,⟨F,hO,hF⟩,hJ⟩:=HI.out;have hsw:=HRs.out _ hRw;by_cases hlt:k<n
 ·obtain⟨b,off,rfl,hb,k0,k1,k2,k3,k4,k5,k6⟩:=h4 (by omega)
  have x0:=k0 k wr hlt (hRb _ hRw);have x1:=k1 k wr hlt (hRb _ hRw);have x2:=k2 k wr hlt (hRb _ hRw);have x3:=k3 k wr hlt (hRb _ hRw);have x4:=k4 k wr hlt (hRb _ hRw);have x5:=k5 k wr hlt (hRb _ hRw);have x6:=k6 k wr hlt (hRb _ hRw);obtain⟨Q,hQ,hQ1,hy⟩:=BO wr (c7 (Ag l k) (fr k).sa (fr k).sc (fr k).ra (fr k).rc (fr k).oa (fr k).oc (fr k).ua (fr k).uc) 34;have hQb:=hQ.below;have hQn:=hQ.next
  have hQR:∀x,In Q x→In R x:=fun x hx=>hRn _ _ hRw (hQb x hx)
  have HS:∀x,In Q x→(fun x:World=>x.cell? ⟨wr.heap.size,0,none⟩=some (.slice (fr k).sa (Ag l k).store.length (fr k).sc)∧x.cell? ⟨wr.heap.size,1,none⟩=some (.slice (fr k).ra (Ag l k).refs.length (fr k).rc)∧x.cell? ⟨wr.heap.size,2,none⟩=some (.int .i64 (Ag l k).gen)∧x.cell? ⟨wr.heap.size,3,none⟩=some (.int .i64 (Ag l k).phase)∧x.cell? ⟨wr.heap.size,4,none⟩=some (.slice (fr k).oa (Ag l k).pend.objects.length (fr k).oc)∧x.cell? ⟨wr.heap.size,5,none⟩=some (.slice (fr k).ua (Ag l k).pend.updates.length (fr k).uc)∧x.cell? ⟨wr.heap.size,6,none⟩=some (.bool (Ag l k).pend.force)) x:=fun x hx=>⟨hy 0 _ rfl x hx,hy 1 _ rfl x hx,hy 2 _ rfl x hx,hy 3 _ rfl x hx,hy 4 _ rfl x hx,hy 5 _ rfl x hx,hy 6 _ rfl x hx⟩
  have HO:=zh (fun x (hx:In Q x)=>hO.below (hQb _ hx));have HJ:=zh (fun x (hx:In Q x)=>((hQb _ hx).block _ (show w.heap.size+2<wr.heap.size by omega)).trans hJ);have HC:=zh (fun x (hx:In Q x)=>Ot (Ag l k) _ _ _ _ _ x ((h5 k hlt).below (hRb _ (hQR _ hx))));simp only[AO] at HC;have hi1:=zk k;have hi2:(k:Int)<(n:Int):=by omega
  have Hob:=zh (fun g (hg:(Value.slice va vn vc).ownBlock=some g)=>hO.block hg);have HF:=zh hF;have hlk:=HTl.out k;have HTk:=zh (HT.out k hlt);clear hy h4 h5 hO hJ hF HT HL c0 k0 k1 k2 k3 k4 k5 k6;obtain⟨wo,rfl⟩:∃wo:World,wo=wr:=⟨_,rfl⟩;go_wp2_with fail;refine rh (fun x:World=>x.cell? ⟨wo.heap.size,0,none⟩=some (.slice (fr k).sa (Ag l k).store.length (fr k).sc)∧x.cell? ⟨wo.heap.size,1,none⟩=some (.slice (fr k).ra (Ag l k).refs.length (fr k).rc)∧x.cell? ⟨wo.heap.size,2,none⟩=some (.int .i64 (Ag l k).gen)∧x.cell? ⟨wo.heap.size,3,none⟩=some (.int .i64 (Ag l k).phase)∧x.cell? ⟨wo.heap.size,4,none⟩=some (.slice (fr k).oa (Ag l k).pend.objects.length (fr k).oc)∧x.cell? ⟨wo.heap.size,5,none⟩=some (.slice (fr k).ua (Ag l k).pend.updates.length (fr k).uc)∧x.cell? ⟨wo.heap.size,6,none⟩=some (.bool (Ag l k).pend.force)) ?_;have hC0:=hQ.drew _ hQ1;generalize (wo.alloc _).drew=x0 at hC0⊢;clear hQ1;have hS0:=HS _ hC0;refine tk 0 (.pointer (some ⟨w.heap.size+2,0,none⟩)) (fun w hSw=>?_) hS0 ?_
  ·go_simp
  simp only[tkS];refine tk 2 (.agg (c7 (Ag l k) (fr k).sa (fr k).sc (fr k).ra (fr k).rc (fr k).oa (fr k).oc (fr k).ua (fr k).uc)) (fun w hSw=>?_) hS0 ?_
  ·obtain⟨y0,y1,y2,y3,y4,y5,y6⟩:=hSw;go_simp
  simp only[tkS];refine bD (.slice va vn vc) 1 3 hS0 ?_ (fun bb vv hvv=>?_)
  ·have cJw:=Aa (j:=0) (HJ.out _ hC0) rfl;go_simp
  simp only[tkS];refine Or.inl ?_;go_wp2_with fail;refine(HC.out _ hC0).mono ?_;rintro e x1 ⟨sv1,rv1,ov1,uv1,rfl,hv,hb1⟩;have hC1:=hQn _ _ hC0 hb1;have hs0:=(hQb _ hC0).size;have hs1:=hb1.size;have Hv:=zh hv;obtain⟨AU,AX,rfl⟩:=hv.store.vshape;obtain⟨⟨ra1,rc1⟩,rfl⟩:=hv.refs.shape;obtain⟨oa1,oc1,rfl⟩:=hv.objs.vshape;obtain⟨⟨ua1,uc1⟩,rfl⟩:=hv.upds.shape;have hS1:=HS _ hC1;clear hv hb1;simp only[AO];go_simp;refine bE 1 4 hvv hS1 ?_ (fun bb vv hvv=>?_)
  ·have cJw:=Aa (j:=0) (HJ.out _ hC1) rfl;go_simp
  simp only[tkS];refine Or.inl ?_;have hC2:=hQ.alloc _ (.cells (c7 (Ag l k) AU AX ra1 rc1 oa1 oc1 ua1 uc1) 34) hC1;have hS2:=HS _ hC2;have hrow:=zh (Sr x1 (Ag l k) ⟨.slice AU (Ag l k).store.length AX,.slice ra1 (Ag l k).refs.length rc1,.slice oa1 (Ag l k).pend.objects.length oc1,.slice ua1 (Ag l k).pend.updates.length uc1⟩ 34 x1.heap.size rfl (Ax.lt Hv.out));go_simp;refine bF 1 5 hvv hS2 ?_ ?_
  ·have cJw:=Aa (j:=0) (HJ.out _ hC2) rfl;go_simp
  simp only[tkS];refine Or.inl ?_;obtain⟨v4,x4,hr4,hO4,hu4⟩:=Ga 22 (HO.out _ hC2) hrow.out (fun b hb=>⟨by rcases hb with hb|hb;have:=hb.2;simp;omega;simp;omega,fun e=>by have:=(Hob.out _ e).2;rcases hb with hb|hb;have:=hb.1;omega;omega⟩) (by simp;omega) (by simp;omega);obtain⟨a4,n4,c4,rfl⟩:=hO4.shape3;refine Cm (.tmp 14) (.tmp 17) 22 (by rfl) _ _ _ (by rfl) (by rfl) hr4 ?_;simp only[tkS];have hjo:∀b,(Value.slice va vn vc).ownBlock=some b→w.heap.size+3≤b∧b<wo.heap.size:=fun b hb=>Hob.out b hb
  have hS4:(fun x:World=>x.cell? ⟨wo.heap.size,0,none⟩=some (.slice (fr k).sa (Ag l k).store.length (fr k).sc)∧x.cell? ⟨wo.heap.size,1,none⟩=some (.slice (fr k).ra (Ag l k).refs.length (fr k).rc)∧x.cell? ⟨wo.heap.size,2,none⟩=some (.int .i64 (Ag l k).gen)∧x.cell? ⟨wo.heap.size,3,none⟩=some (.int .i64 (Ag l k).phase)∧x.cell? ⟨wo.heap.size,4,none⟩=some (.slice (fr k).oa (Ag l k).pend.objects.length (fr k).oc)∧x.cell? ⟨wo.heap.size,5,none⟩=some (.slice (fr k).ua (Ag l k).pend.updates.length (fr k).uc)∧x.cell? ⟨wo.heap.size,6,none⟩=some (.bool (Ag l k).pend.force)) x4:=⟨hu4.cell hS2.1 (fun e=>absurd (hjo _ e).2 (Nat.lt_irrefl _)),hu4.cell hS2.2.1 (fun e=>absurd (hjo _ e).2 (Nat.lt_irrefl _)),hu4.cell hS2.2.2.1 (fun e=>absurd (hjo _ e).2 (Nat.lt_irrefl _)),hu4.cell hS2.2.2.2.1 (fun e=>absurd (hjo _ e).2 (Nat.lt_irrefl _)),hu4.cell hS2.2.2.2.2.1 (fun e=>absurd (hjo _ e).2 (Nat.lt_irrefl _)),hu4.cell hS2.2.2.2.2.2.1 (fun e=>absurd (hjo _ e).2 (Nat.lt_irrefl _)),hu4.cell hS2.2.2.2.2.2.2 (fun e=>absurd (hjo _ e).2 (Nat.lt_irrefl _))⟩;have hJ4:=hu4.blk (HJ.out _ hC2) (fun e=>by have:=(hjo _ e).1;omega);have hR4:=HRu.out _ _ _ (hQR _ hC2) hu4 (fun b hb=>by have:=(hjo _ hb).1;omega);have HO4:=zh hO4;refine⟨hS4,?_⟩;clear hO4 hr4 hu4 hjo hrow;refine al1 6 ?_;refine Or.inl ?_;go_simp
  first|refine⟨hS4,?_⟩|skip
  refine al1 7 ?_;refine Or.inl ?_;have cJ:=Aa (j:=0) hJ4 rfl;have fJ:=Ad (j:=0) hJ4;go_wp2_with fail
  first|refine⟨hS4,wpAnyH_done (by kernel_rfl) ?_ _⟩|refine wpAnyH_done (by kernel_rfl) ?_ _
  have hu5:=su (w.heap.size+2) 0 x4 (.slice a4 n4 c4);have hJ5:=sb hJ4 (.slice a4 n4 c4);have hR5:=HRu.out _ _ _ hR4 hu5 (fun b hb=>by omega);have hge:∀b,(F b∨((x0.heap.size≤b∧b<x1.heap.size)∨b=x1.heap.size))→w.heap.size+3≤b:=fun b hb=>by rcases hb with hb|hb|hb;exact HF.out b hb;omega;omega
  have hO5:DP (w.heap.size+3) _ (.slice a4 n4 c4) (l.take (k+1)):=⟨_,BD.list HTk.out.symm (HO4.out.upd hu5 (fun b hb e=>by have:=hge b hb;omega) (fun g hg e=>by have:=(HO4.out.block hg).1;omega)),hge⟩;generalize x4.setCell ⟨w.heap.size+2,0,none⟩ (.slice a4 n4 c4)=x5 at*;have HI5:=zh (show∃va vn vc,DP (w.heap.size+3) x5 (.slice va vn vc) (l.take (k+1))∧x5.heap[w.heap.size+2]?=some (.cells #[.slice va vn vc] 24 (0,0)) from⟨_,_,_,hO5,hJ5⟩);clear hO5 hJ5 hge hu5 HO4 cJ fJ hS4 hJ4 hS0 hS1 hS2 HS HO HJ HC Hv HI;go_wp2_with fail;go_roundw
  case rel=>exact⟨k+1,by omega,by go_num,HI5.out,hR5⟩
  case measure=>simp[intOf];omega
 ·obtain rfl:k=n:=by omega
  rw[HL.out] at hO;have HOk:=zh (And.intro hO hF);have hZ:=HZ.out _ hRw;have cJ:=Aa (j:=0) hJ rfl;have cZ:=Aa (j:=0) hZ rfl;have fZ:=Ad (j:=0) hZ;clear hO hF HI c0;go_wp2_with fail;have hu5:=su (w.heap.size+1) 0 wr (.slice va vn vc);have hk5:=sb hZ (.slice va vn vc);generalize wr.setCell ⟨w.heap.size+1,0,none⟩ (.slice va vn vc)=x5 at*;have k0:=Aa (j:=0) hk5 rfl;refine bodyPost_ret (v:=.agg #[.slice va vn vc]) (by simp[results,Tryz.results39,go_sem];simp[k0]<;>rfl) rfl ?_;refine⟨_,rfl,⟨F,(HOk.out.1.upd hu5 (fun b hb e=>by have:=HOk.out.2 b hb;omega) (fun g hg e=>by have:=(HOk.out.1.block hg).1;omega)).weaken (B':=w.heap.size) (fun _ h=>h) (fun b hb=>⟨Nat.lt_of_lt_of_le (HOk.out.1.lt hb) hu5.size,HOk.out.1.own hb⟩) (by omega),fun b hb=>by have:=HOk.out.2 b hb;omega⟩,(hRb _ hRw).trans (hu5.below (B:=w.heap.size) (hRb _ hRw).size (fun b hb=>by omega))⟩
end Go.Proofs.YtgbnlmplkealdaaGreatDoor
