
/- RefB: OutRow, Swap, RefWith, RefAdd, FlowS, Begun2. -/
import Derived.Test.YtgbnlmplkealdaaGreatDoorC11
import Derived.Laws.OwnMore
import Derived.ChangeAlike
set_option linter.all false
set_option maxHeartbeats 4000000
set_option maxRecDepth 100000
namespace Go.Proofs.YtgbnlmplkealdaaGreatDoor
open Go.RowKit
variable [Ghost]
theorem Re {w:World} {lv:Value} {l:List Obj} {S:Nat→Prop} (ty:TypeId) (h:Ai S w lv l) (hl:l.length≤1000):
  ∃g c x,(Builtin.append_ #[25,25] ty #[.slice (some ⟨w.heap.size,0,none⟩) 0 0,lv]).run Tryz.prog (w.alloc (.cells #[] 96))=.ok (.slice (some ⟨g,0,none⟩) l.length c) x∧
   Dd (fun b=>S b∧b<w.heap.size) w.heap.size x (.slice (some ⟨g,0,none⟩) l.length c) l∧Below w.heap.size w x:=by
 obtain⟨i0,hi,hz0,hz1,hz2⟩:=info_parts Tryz.infoObj;have hown:(w.alloc (.cells #[] 96)).ownsRow w.heap.size 96 4 (.slice (some ⟨w.heap.size,0,none⟩) 0 0) 0 []:=
  ⟨rfl,.inr ⟨w.heap.size,0,#[],rfl,Nat.le_refl _,heap_alloc_new w _,Nat.le_refl _,by unfold maxLen;omega,rfl,rfl⟩⟩
 have hB1:Below w.heap.size w (w.alloc (.cells #[] 96)):=bal;obtain⟨lvs,⟨a,cap,rfl,h1,h2,h3,h4⟩,h5⟩:=h.lt;by_cases h0:l.length=0
 ·obtain rfl:l=[]:=List.length_eq_zero_iff.1 h0
  refine⟨w.heap.size,0,_,run_append_nothing _ 25 25 ty 96 i0 Tryz.underlying25 hi (some ⟨w.heap.size,0,none⟩) 0 0 (Nat.le_refl _) _
   ⟨.inl ⟨_,Tryz.underlying25⟩,fun w'=>by simp[Builtin.lenOf],by cases a<;>simp[Builtin.firstCells]<;>rfl,by cases a<;>simp[Builtin.firstCells]<;>rfl,by simp,by simp⟩,⟨fun _=>.nilFunc,fun b (hb:S b∧b<w.heap.size)=>⟨by simp;omega,fun e=>by cases e;exact Nat.lt_irrefl _ hb.2⟩,hown,fun i hi=>by simp at hi⟩,hB1⟩
 ·obtain⟨b,off,rfl,⟨hb,_⟩,hc⟩:=h4 (by omega)
  obtain⟨g',c',x',hr,ho,hg,hor,hlt⟩:=run_append_lies (P:=Tryz.prog) (w.alloc (.cells #[] 96)) 25 ty w.heap.size 96 i0 _ 4 56 Tryz.underlying25 hi hz0 hz1 hz2 rfl (by omega) _ 0 [] hown ⟨b,off,none⟩ l.length cap (AN (fun i=>AG (obj l i) (lvs i)) l.length) (Bc fun _ _=>rfl)
   (fun j u hu=>by
    have hj:j<l.length*4:=by
     rcases Nat.lt_or_ge j (l.length*4) with h|h
     ·exact h
     ·rw[List.getElem?_eq_none (by rw[Bc (sz:=4) fun _ _=>rfl];exact h)] at hu;cases hu
    have hi':j / 4<l.length:=by omega
    have hm:j % 4<(AG (obj l (j / 4)) (lvs (j / 4))).length:=by show j % 4<4;omega
    have e:=CJ (cs:=fun i=>AG (obj l i) (lvs i)) (sz:=4) (n:=l.length) (fun _ _=>rfl) (j / 4) hi' (j % 4) _ (List.getElem?_eq_getElem hm);rw[show j / 4*4+j % 4=j by omega,hu] at e;have:=hc (j / 4) hi' (j % 4) u (by rw[List.getElem?_eq_getElem hm];exact e.symm);rw[show(⟨b,off,none⟩:Addr).add j=⟨b,off+j,none⟩ by unfold Addr.add;split<;>simp_all];rw[show off+j=off+j / 4*4+j % 4 by omega,hB1.cell (p:=⟨b,off+j / 4*4+j % 4,none⟩) hb.2];exact this)
   (Jq fun i hi=>JF (h5 i hi)) (by omega) (by unfold maxLen;omega) (by omega) (by simp) _ rfl
  have hB2:Below w.heap.size w x':=Below.grown hB1 hg (by simp) (fun k hk=>(hown.lt k hk).1);refine⟨g',c',x',by simpa using hr,⟨lvs,fun b (hb:S b∧b<w.heap.size)=>⟨by have:=hB2.size;omega,fun e=>?_⟩,by simpa using ho,fun i hi=>(h5 i hi).below hB2⟩,hB2⟩;have e':g'=b:=by simpa[Value.ownBlock] using e
  rcases hor with h|h
  ·have:w.heap.size=g':=by simpa[Value.ownBlock] using h
   omega
  ·simp at h;omega
variable [Ghost]
def Ix (g o:Nat) (v0 v1 v2 v3:Value) (w:World):World:=(((w.setCell ⟨g,o,none⟩ v0).setCell ⟨g,o+1,none⟩ v1).setCell ⟨g,o+2,none⟩ v2).setCell ⟨g,o+3,none⟩ v3
theorem Iy (g o:Nat) (v0 v1 v2 v3:Value) (w:World):AK (fun x=>x=g) w (Ix g o v0 v1 v2 v3 w):=
 AK.setCell (T:=fun x=>x=g) (AK.setCell (T:=fun x=>x=g) (AK.setCell (T:=fun x=>x=g) (AK.setCell (T:=fun x=>x=g) (AK.refl (fun x=>x=g) w) (fun _=>rfl) v0) (fun _=>rfl) v1) (fun _=>rfl) v2) (fun _=>rfl) v3
theorem Ut {cs:Nat→List Value} {n:Nat} (h:∀i,i<n→(cs i).length=4) {m:Nat} (hm:m<n*4):(AN cs n)[m]?=(cs (m / 4))[m % 4]?:=by
 have hi:m / 4<n:=by omega
 have hj:m % 4<(cs (m / 4)).length:=by rw[h _ hi];omega
 have:=CJ (sz:=4) h (m / 4) hi (m % 4) _ (List.getElem?_eq_getElem hj);rw[show m / 4*4+m % 4=m by omega] at this;rw[this,List.getElem?_eq_getElem hj]
theorem RE {cs:Nat→List Value} {n i:Nat} (h:∀j,j<n→(cs j).length=4) (hi:i<n) (v0 v1 v2 v3:Value):
  ((((AN cs n).set (i*4) v0).set (i*4+1) v1).set (i*4+2) v2).set (i*4+3) v3=AN (fun j=>if j=i then[v0,v1,v2,v3] else cs j) n:=by
 have hl:=Bc (sz:=4) h;have hl':(AN (fun j=>if j=i then[v0,v1,v2,v3] else cs j) n).length=n*4:=Bc (sz:=4) fun j hj=>by
  by_cases e:j=i
  ·simp[e]
  ·simp only[if_neg e];exact h j hj
 apply List.ext_getElem?
 intro m;by_cases hm:m<n*4
 ·rw[Ut (fun j hj=>by
   by_cases e:j=i
   ·simp[e]
   ·simp only[if_neg e];exact h j hj) hm]
  simp only[List.getElem?_set,List.length_set,hl];by_cases e:m / 4=i
  ·rw[if_pos e]
   have:m % 4=0∨m % 4=1∨m % 4=2∨m % 4=3:=by omega
   rcases this with k|k|k|k
   ·rw[if_neg (by omega),if_neg (by omega),if_neg (by omega),if_pos (by omega),if_pos (by omega),k];rfl
   ·rw[if_neg (by omega),if_neg (by omega),if_pos (by omega),if_pos (by omega),k];rfl
   ·rw[if_neg (by omega),if_pos (by omega),if_pos (by omega),k];rfl
   ·rw[if_pos (by omega),if_pos (by omega),k];rfl
  ·rw[if_neg (by omega),if_neg (by omega),if_neg (by omega),if_neg (by omega),if_neg e,Ut h hm]
 ·rw[List.getElem?_eq_none (by simp only[List.length_set,hl];omega),List.getElem?_eq_none (by rw[hl'];omega)]
theorem OE {w:World} {B g n cap o:Nat} {e:TypeId} {xs:List Value} (h:w.ownsRow B e 4 (.slice (some ⟨g,0,none⟩) n cap) n xs) (v0 v1 v2 v3:Value):
  (Ix g o v0 v1 v2 v3 w).ownsRow B e 4 (.slice (some ⟨g,0,none⟩) n cap) n ((((xs.set o v0).set (o+1) v1).set (o+2) v2).set (o+3) v3):=
 (((((h.stored o v0).1).stored (o+1) v1).1.stored (o+2) v2).1.stored (o+3) v3).1
def OI (l:List Obj) (i:Nat):List Obj:=l.take i++obj l (i+1)::obj l i::l.drop (i+2)
theorem IA {l:List Obj} {i:Nat} (h:i+1<l.length):(OI l i).length=l.length:=by
 unfold OI;rw[List.length_append,List.length_cons,List.length_cons,List.length_take,List.length_drop];omega
theorem OJ {l:List Obj} {i:Nat} (h:i+1<l.length) (j:Nat):obj (OI l i) j=if j=i then obj l (i+1) else if j=i+1 then obj l i else obj l j:=by
 unfold OI obj at_;simp only[List.getD_eq_getElem?_getD];rcases Nat.lt_trichotomy j i with h1|rfl|h1
 ·rw[if_neg (by omega),if_neg (by omega),List.getElem?_append_left (by rw[List.length_take];omega),List.getElem?_take,if_pos h1]
 ·rw[if_pos rfl,List.getElem?_append_right (by rw[List.length_take];omega),List.length_take,show j-min j l.length=0 by omega];rfl
 ·rw[if_neg (by omega),List.getElem?_append_right (by rw[List.length_take];omega),List.length_take]
  by_cases h2:j=i+1
  ·rw[if_pos h2,show j-min i l.length=1 by omega];rfl
  ·rw[if_neg h2,show j-min i l.length=(j-(i+2))+2 by omega,List.getElem?_cons_succ,List.getElem?_cons_succ,List.getElem?_drop,show i+2+(j-(i+2))=j by omega]
theorem Yn {l:List Obj} {i:Nat} {o:Obj} (h:i<l.length):OI (Ku l (i+1) o) i=Ku l i o:=by
 have hl1:i+1<(Ku l (i+1) o).length:=by rw[CK (by omega)];omega
 apply List.ext_getElem
 ·rw[IA hl1,CK (by omega),CK (by omega)]
 ·intro j h1 h2
  rw[←Dm h1,←Dm h2,OJ hl1];rcases Nat.lt_trichotomy j i with k|rfl|k
  ·rw[if_neg (by omega),if_neg (by omega),Im (by omega) (by omega),Im (by omega) k]
  ·rw[if_pos rfl,Jg (by omega),Jg (by omega)]
  ·rw[if_neg (by omega)]
   obtain⟨c,rfl⟩:∃c,j=c+1:=⟨j-1,by omega⟩;by_cases h3:c+1=i+1
   ·rw[if_pos h3,Im (by omega) (by omega),Il (by omega) (by omega),show c=i by omega]
   ·rw[if_neg h3,Il (by omega) (by omega),Il (by omega) (by omega)]
theorem PV {S:Nat→Prop} {B:Nat} {w:World} {v:Value} {l:List Obj} {i:Nat} (hG:Dd S B w v l) (hi:i+1<l.length):
  ∃(g cap:Nat) (p p':Option Addr) (c c':Nat),v=.slice (some ⟨g,0,none⟩) l.length cap∧l.length≤cap∧
   w.cell? ⟨g,i*4,none⟩=some (.int .i64 (obj l i).id)∧w.cell? ⟨g,i*4+1,none⟩=some (.int .i64 (obj l i).kind)∧w.cell? ⟨g,i*4+2,none⟩=some (.slice p (obj l i).links.length c)∧w.cell? ⟨g,i*4+3,none⟩=some (.string (obj l i).text)∧
   w.cell? ⟨g,(i+1)*4,none⟩=some (.int .i64 (obj l (i+1)).id)∧w.cell? ⟨g,(i+1)*4+1,none⟩=some (.int .i64 (obj l (i+1)).kind)∧w.cell? ⟨g,(i+1)*4+2,none⟩=some (.slice p' (obj l (i+1)).links.length c')∧w.cell? ⟨g,(i+1)*4+3,none⟩=some (.string (obj l (i+1)).text)∧
   (∀j,w.frozen? ⟨g,j,none⟩=false)∧B≤g∧g<w.heap.size∧
   ∀x:World,(∀b:Nat,x.heap[b]?=w.heap[b]?)→x.heap.size=w.heap.size→
    Dd S B (Ix g (i*4) (.int .i64 (obj l (i+1)).id) (.int .i64 (obj l (i+1)).kind) (.slice p' (obj l (i+1)).links.length c') (.string (obj l (i+1)).text) (Ix g ((i+1)*4) (.int .i64 (obj l i).id) (.int .i64 (obj l i).kind) (.slice p (obj l i).links.length c) (.string (obj l i).text) x)) v (OI l i):=by
 obtain⟨lvs,h1,h2,h3⟩:=hG;obtain⟨⟨p,c⟩,hp⟩:=(h3 i (by omega)).1.shape;obtain⟨⟨p',c'⟩,hp'⟩:=(h3 (i+1) hi).1.shape;have hv:∃g cap,v=.slice (some ⟨g,0,none⟩) l.length cap∧l.length≤cap∧B≤g∧g<w.heap.size:=by
  rcases h2.2 with⟨rfl,hn⟩|⟨g,cap,cur,rfl,hB,hh,hc,_⟩
  ·omega
  ·exact⟨g,cap,rfl,hc,hB,lt_of_block hh⟩
 obtain⟨g,cap,rfl,hcap,hB,hg⟩:=hv;have hlen:∀j,j<l.length→(AG (obj l j) (lvs j)).length=4:=fun _ _=>rfl
 have hcell:∀j,j<l.length→∀m u,(AG (obj l j) (lvs j))[m]?=some u→w.cell? ⟨g,j*4+m,none⟩=some u:=fun j hj m u hu=>by
  have e:=CJ (cs:=fun i=>AG (obj l i) (lvs i)) (sz:=4) hlen j hj m u hu;have hm:m<4:=by
   rcases Nat.lt_or_ge m 4 with h|h
   ·exact h
   ·rw[List.getElem?_eq_none (by exact h)] at hu;cases hu
  rw[h2.cellAt _ (by omega)];exact e
 simp only at hp hp';refine⟨g,cap,p,p',c,c',rfl,hcap,?_⟩;rw[←hp,←hp'];refine⟨
  hcell i (by omega) 0 _ rfl,hcell i (by omega) 1 _ rfl,hcell i (by omega) 2 _ rfl,hcell i (by omega) 3 _ rfl,
  hcell (i+1) hi 0 _ rfl,hcell (i+1) hi 1 _ rfl,hcell (i+1) hi 2 _ rfl,hcell (i+1) hi 3 _ rfl,fun j=>h2.frozenAt j,hB,hg,fun x hx hxs=>?_⟩
 have hox:x.ownsRow B 96 4 (.slice (some ⟨g,0,none⟩) l.length cap) l.length (AN (fun i=>AG (obj l i) (lvs i)) l.length):=by
  refine⟨h2.1,?_⟩;rcases h2.2 with h|⟨g',cap',cur,e,hB',hh,r⟩
  ·exact .inl h
  ·exact .inr ⟨g',cap',cur,e,hB',by rw[hx];exact hh,r⟩
 have hu:AK (fun b=>b=g) x (Ix g (i*4) (.int .i64 (obj l (i+1)).id) (.int .i64 (obj l (i+1)).kind) (lvs (i+1)) (.string (obj l (i+1)).text) (Ix g ((i+1)*4) (.int .i64 (obj l i).id) (.int .i64 (obj l i).kind) (lvs i) (.string (obj l i).text) x)):=
  (Iy g _ _ _ _ _ x).trans (Iy g _ _ _ _ _ _) (fun _ _ h=>h)
 have h4:=OE (o:=i*4) (OE (o:=(i+1)*4) hox (.int .i64 (obj l i).id) (.int .i64 (obj l i).kind) (lvs i) (.string (obj l i).text)) (.int .i64 (obj l (i+1)).id) (.int .i64 (obj l (i+1)).kind) (lvs (i+1)) (.string (obj l (i+1)).text);rw[RE hlen hi,RE (fun j hj=>by
  by_cases e:j=i+1
  ·simp[e]
  ·simp only[if_neg e];exact hlen j hj) (by omega)] at h4
 have hoi:∀j,j<l.length→Bu S x (obj l j) (lvs j):=fun j hj=>(h3 j hj).same fun b _=>hx b
 refine⟨fun j=>if j=i then lvs (i+1) else if j=i+1 then lvs i else lvs j,fun b hb=>?_,?_,fun j hj=>?_⟩
 ·have:=h1 b hb
  exact⟨by have:=hu.size;omega,this.2⟩
 ·rw[IA hi]
  have e:AN (fun j=>AG (obj (OI l i) j) (if j=i then lvs (i+1) else if j=i+1 then lvs i else lvs j)) l.length=
    AN (fun j=>if j=i then[.int .i64 (obj l (i+1)).id,.int .i64 (obj l (i+1)).kind,lvs (i+1),.string (obj l (i+1)).text] else if j=i+1 then[.int .i64 (obj l i).id,.int .i64 (obj l i).kind,lvs i,.string (obj l i).text] else AG (obj l j) (lvs j)) l.length:=
   Bi fun j hj=>by
    rw[OJ hi];by_cases e1:j=i
    ·simp[e1,AG]
    ·by_cases e2:j=i+1
     ·simp[e2,AG]
     ·simp[e1,e2]
  rw[e];exact h4
 ·rw[IA hi] at hj
  have hn:∀b,b=g→¬S b:=fun b hb hS=>(h1 b hS).2 (by rw[hb];rfl)
  rw[OJ hi];by_cases e1:j=i
  ·simp only[if_pos e1];exact(hoi _ hi).upd hu (fun b hS e=>hn b e hS)
  ·simp only[if_neg e1]
   by_cases e2:j=i+1
   ·simp only[if_pos e2];exact(hoi _ (by omega)).upd hu (fun b hS e=>hn b e hS)
   ·simp only[if_neg e2];exact(hoi _ hj).upd hu (fun b hS e=>hn b e hS)
variable [Ghost]
theorem YY (l:List Obj) (o:Obj):Ku l l.length o=l++[o]:=by unfold Ku;rw[List.take_length,List.drop_length]
theorem PX (l more:List Obj) (lv mv:Value) (S S':Nat→Prop) (w:World) (h:Ai S w lv l) (hm:Ai S' w mv more) (hr:AD l) (hl:l.length≤500) (hml:more.length≤400):
  Calls Tryz.prog 60 #[lv,mv] w fun e w'=>GF (fun b=>S b∨S' b) w w' e (Cs l more) (Cd l more):=by
 obtain⟨g0,c0,x0,hap,hG0,hB0⟩:=Re 25 h (by omega);obtain⟨ma,n,mc,la,ln,lc,HN,rfl,h1,h2,h3,h4,h5⟩:=hm.lt.open;obtain⟨sa,sc,rfl⟩:=h.vshape;have Hn:=zh HN.out.1;have HwE:=zh (show Cd l more=if An (BT l more) n=0 then Aj (Aq l more n) else An (BT l more) n by rw[Hn.out];rfl);have HwL:=zh (show Cs l more=if Cd l more=0 then Aq l more n else[] by rw[Hn.out];rfl);have hn400:n≤400:=by rw[Hn.out];exact hml
 have Hjl:=zh (show∀k,(Aq l more k).length≤500+k from fun k=>by have:=EW l more k;omega);have Hjr:=zh (Gq hr more);have HG0:=zh (show Dc (fun b=>S b∨S' b) w.heap.size x0 _ _ from⟨_,hG0,fun b hb=>.inl hb.1⟩);have HB0:=zh hB0;have H5:=zh h5;clear h hG0 hB0 hm hr hl hml h5 HN
 go_enter Tryz.func60, Tryz.ntmps60
 go_wp2_with (at_builtin;refine AY rfl _ _ 25 rfl _ _ _ rfl rfl hap ?_);clear hap;go_loopw [6,7] (fun v i wr=>∃k:Nat,k≤n∧i=.int .i64 k∧Hid (An (BT l more) k=0)∧Hid (Dc (fun b=>S b∨S' b) w.heap.size wr v (Aq l more k)∧Below w.heap.size w wr)) (fun _ i _=>n-(intOf i).toNat)
 case atStart=>exact⟨0,by omega,rfl,rfl,⟨HG0.out,HB0.out⟩⟩
 obtain⟨k,hk,rfl,Hs,HX⟩:=hrel;obtain⟨wo,rfl⟩:∃wo:World,wo=wr:=⟨_,rfl⟩;by_cases hlt:k<n
 ·have hjl:=Hjl.out k
  have hjr:=Hjr.out k;obtain⟨b,off,rfl,hb,k0,k1,k2,k3⟩:=h4 (by omega);have x0:=k0 k wo hlt HX.out.2;have x1:=k1 k wo hlt HX.out.2;have x2:=k2 k wo hlt HX.out.2;have x3:=k3 k wo hlt HX.out.2;have Hst:=zh (HX.out.1.store (by omega));have hat0:=hjr.at_ (obj more k).id;have hHat:=DQ (Aq l more k) _ _ (obj more k).id wo Hst.out;obtain⟨va,vc,hvs⟩:=HX.out.1.shape;subst hvs;have hi1:=zk k;have hi2:(k:Int)<(n:Int):=by omega
  have hjs:=EW l more k;have HjE:=zh (show BT l more k=GO (Aq l more k) (obj more k) from rfl);have HjL:=zh (show Aq l more (k+1)=Fq (Aq l more k) (obj more k) from rfl);cases hat:CO (Aq l more k) (obj more k).id
  ·have HL:=zh (show Aq l more (k+1)=Ku (Aq l more k) (lo (Aq l more k) (obj more k).id) (obj more k) by rw[HjL.out];unfold Fq;rw[if_neg (by simp[hat])])
   have HE:=zh (show BT l more k=0 by rw[HjE.out];unfold GO;simp[hat]);have hlo:=PM (Aq l more k) (obj more k).id;have Hlt:=zh (hjr.lo_lt (id:=(obj more k).id));have Hgt:=zh (hjr.lo_gt hat);rw[hat] at hat0;rw[show Kn (Aq l more k) (obj more k).id=-1 from hat0] at hHat;have HHat:=zh hHat;have Ho:=zh (H5.out k hlt);clear hHat hat0 hat hjr HjE HjL;generalize lo (Aq l more k) (obj more k).id=q at*;go_wp2_with fail;refine HHat.out.mono ?_;rintro e w' ⟨rfl,rfl⟩;go_wp2_with fail;go_quiet (fail);have hbN:Below wo.heap.size wo (wo.drewN nq):=CA wo _ nq (Below.refl _ _);have HB2:=zh (HX.out.2.trans (hbN.mono HX.out.2.size));have HG2:=zh (HX.out.1.below hbN);have y0:=k0 k _ hlt HB2.out;have y1:=k1 k _ hlt HB2.out;have y2:=k2 k _ hlt HB2.out;have y3:=k3 k _ hlt HB2.out;have Ho2:=zh (Ho.out.below HB2.out);have hsz:=HB2.out.size;have Hsep:=zh (show∀b,(S' b∧b<w.heap.size)→b<(wo.drewN nq).heap.size∧(Value.slice va (Aq l more k).length vc).ownBlock≠some b from
    fun b hb=>⟨by omega,fun e=>by have:=(HG2.out.block e).1;omega⟩)
   clear x0 x1 x2 x3 k0 k1 k2 k3 h4;generalize wo.drewN nq=w2 at*;clear hbN;obtain⟨S1,hGS1,hSA1⟩:=HG2.out;go_wp2_with (at_builtin;refine Dq rfl _ _ rfl hGS1 Ho2.out rfl Hsep.out (by omega) hsz rfl rfl (by first|rfl|simp) ?_);intro v' w5 hG5 hu5;have HB5:=zh (HB2.out.trans (hu5.below (B:=w.heap.size) hsz (fun b hb=>(HG2.out.block hb).1)));have HG5:=zh (show Dc (fun b=>S b∨S' b) w.heap.size w5 v' (Ku (Aq l more k) (Aq l more k).length (obj more k)) by rw[YY];exact⟨_,hG5,fun b hb=>hb.elim (hSA1 b) (fun h=>.inr h.1)⟩);obtain⟨va',vc',hvs'⟩:=hG5.gath.shape;rw[List.length_append,List.length_singleton] at hvs';subst hvs';clear hG5 hu5 y0 y1 y2 y3 HG2 Ho2 Hsep HB2 HHat;go_wp2_with fail;obtain⟨N,hN⟩:∃N,N=(Aq l more k).length+1:=⟨_,rfl⟩;rw[←hN];have HNN:=zh hN;have hN1:N≤901:=by omega
   rw[←hN] at HG5;clear hN;go_loopw [9] (fun i wx=>∃m:Nat,q≤m∧m≤(Aq l more k).length∧i=.int .i64 m∧Hid (Dc (fun b=>S b∨S' b) w.heap.size wx (.slice va' N vc') (Ku (Aq l more k) m (obj more k))∧Below w.heap.size w wx)) (fun i _=>(intOf i).toNat)
   case atStart=>exact⟨_,hlo,Nat.le_refl _,by go_num,HG5.out,HB5.out⟩
   obtain⟨m,hqm,hmj,rfl,HY⟩:=hrel;have hmN:m<N:=by have:=HNN.out;omega
   have him:(m:Int)<(N:Int):=by omega
   have hi0:=zk m;by_cases hqq:q<m
   ·have hil:m-1+1<(Ku (Aq l more k) m (obj more k)).length:=by rw[CK hmj];omega
    obtain⟨S5,hGS,hS5⟩:=(show Dc (fun b=>S b∨S' b) w.heap.size wr (.slice va' N vc') (Ku (Aq l more k) m (obj more k)) from HY.out.1);obtain⟨g,cap,p6,p7,n6,n7,ev,hcap,c0,c1,c2,c3,d0,d1,d2,d3,hfz,hgB,hgw,Hsw⟩:=PV hGS hil;rw[CK hmj,←HNN.out] at ev hcap;cases ev;rw[show m-1+1=m by omega] at d0 d1 d2 d3 Hsw;rw[Jg hmj] at d0 d1 d2 d3 Hsw;rw[Im hmj (show m-1<m by omega)] at c0 c1 c2 c3 Hsw;have Hswap:=zh Hsw;have hgt:(obj more k).id<(obj (Aq l more k) (m-1)).id:=Hgt.out (m-1) (by omega) (by omega);have hm1:(1:Int)≤(m:Int):=by omega
    have hm0:(0:Int)<(m:Int):=by omega
    have hm0n:0<m:=by omega
    have hm2:(m:Int)-1<(N:Int):=by omega
    have hm3:(0:Int)≤(m:Int)-1:=by omega
    have htn:((m:Int)-1).toNat=m-1:=by omega
    have hwr:=Be (n:=(m:Int)-1) (by omega);clear Hsw hGS;go_wp2_with fail;go_quiet (fail);have hsame:∀b:Nat,(wr.drewN nq).heap[b]?=wr.heap[b]?:=fun _=>rfl
    have HSW:=zh (fun x (h1:∀b:Nat,x.heap[b]?=(wr.drewN nq).heap[b]?) (h2:x.heap.size=(wr.drewN nq).heap.size)=>Hswap.out x h1 h2);replace c0:(wr.drewN nq).cell? ⟨g,(m-1)*4,none⟩=_:=c0;replace c1:(wr.drewN nq).cell? ⟨g,(m-1)*4+1,none⟩=_:=c1;replace c2:(wr.drewN nq).cell? ⟨g,(m-1)*4+2,none⟩=_:=c2;replace c3:(wr.drewN nq).cell? ⟨g,(m-1)*4+3,none⟩=_:=c3;replace d0:(wr.drewN nq).cell? ⟨g,m*4,none⟩=_:=d0;replace d1:(wr.drewN nq).cell? ⟨g,m*4+1,none⟩=_:=d1;replace d2:(wr.drewN nq).cell? ⟨g,m*4+2,none⟩=_:=d2;replace d3:(wr.drewN nq).cell? ⟨g,m*4+3,none⟩=_:=d3;replace hfz:∀j,(wr.drewN nq).frozen? ⟨g,j,none⟩=false:=hfz;have HYB:=zh (show Below w.heap.size w (wr.drewN nq) from CA w _ nq HY.out.2);clear hsame Hswap HY;generalize wr.drewN nq=w6 at*;have hG7:=HSW.out w6 (fun _=>rfl) rfl;have hsw:=Yn (l:=Aq l more k) (i:=m-1) (o:=obj more k) (by omega);rw[show m-1+1=m by omega] at hsw;rw[hsw] at hG7;have hu7:=(Iy g (m*4) (.int .i64 (obj (Aq l more k) (m-1)).id) (.int .i64 (obj (Aq l more k) (m-1)).kind) (.slice p6 (obj (Aq l more k) (m-1)).links.length n6) (.string (obj (Aq l more k) (m-1)).text) w6).trans
     (Iy g ((m-1)*4) (.int .i64 (obj more k).id) (.int .i64 (obj more k).kind) (.slice p7 (obj more k).links.length n7) (.string (obj more k).text) _) (fun _ _ h=>h)
    have hB7:=HYB.out.trans (hu7.below (B:=w.heap.size) HYB.out.size (fun b hb=>by omega));obtain⟨w7,hw7⟩:∃w7,w7=Ix g ((m-1)*4) (.int .i64 (obj more k).id) (.int .i64 (obj more k).kind) (.slice p7 (obj more k).links.length n7) (.string (obj more k).text)
     (Ix g (m*4) (.int .i64 (obj (Aq l more k) (m-1)).id) (.int .i64 (obj (Aq l more k) (m-1)).kind) (.slice p6 (obj (Aq l more k) (m-1)).links.length n6) (.string (obj (Aq l more k) (m-1)).text) w6):=⟨_,rfl⟩
    rw[←hw7] at hG7 hB7;have HE7:=zh (And.intro (show Dc (fun b=>S b∨S' b) w.heap.size _ _ _ from⟨_,hG7.below (Below.refl _ _).drew,hS5⟩) (Kq w _ hB7));unfold Ix at hw7;have Hw7:=zh hw7;clear hG7 hB7 hu7 hsw hw7 HSW HYB;go_wp2_with fail;go_region
    rw[←Hw7.out];clear Hw7 c0 c1 c2 c3 d0 d1 d2 d3 hfz;go_wp2_with fail;go_roundw
    case rel=>exact⟨m-1,by omega,by omega,by go_num,HE7.out⟩
    case measure=>simp[intOf];omega
   ·obtain rfl:q=m:=by omega
    by_cases hq0:0<q
    ·have hil:q-1+1<(Ku (Aq l more k) q (obj more k)).length:=by rw[CK hmj];omega
     obtain⟨S5,hGS,hS5⟩:=(show Dc (fun b=>S b∨S' b) w.heap.size wr (.slice va' N vc') (Ku (Aq l more k) q (obj more k)) from HY.out.1);obtain⟨g,cap,p6,p7,n6,n7,ev,hcap,c0,c1,c2,c3,d0,d1,d2,d3,hfz,hgB,hgw,Hsw⟩:=PV hGS hil;rw[CK hmj,←HNN.out] at ev hcap;cases ev;rw[show q-1+1=q by omega] at d0;rw[Jg hmj] at d0;rw[Im hmj (show q-1<q by omega)] at c0;have hgt:¬(obj more k).id<(obj (Aq l more k) (q-1)).id:=by have:=Hlt.out (q-1) (by omega);omega
     have hm1:(1:Int)≤(q:Int):=by omega
     have hm0:(0:Int)<(q:Int):=by omega
     have hm2:(q:Int)-1<(N:Int):=by omega
     have hm3:(0:Int)≤(q:Int)-1:=by omega
     have htn:((q:Int)-1).toNat=q-1:=by omega
     have hwr:=Be (n:=(q:Int)-1) (by omega);clear Hsw hGS c1 c2 c3 d1 d2 d3 hfz;go_wp2_with fail;go_quiet (fail);have HEnd:=zh (show Dc (fun b=>S b∨S' b) w.heap.size (wr.drewN nq) (.slice (some ⟨g,0,none⟩) N vc') (Aq l more (k+1))∧Below w.heap.size w (wr.drewN nq) from
      ⟨by rw[HL.out];exact HY.out.1.below (CA wr _ nq (Below.refl _ _)),CA w _ nq HY.out.2⟩)
     clear c0 d0 HY;generalize wr.drewN nq=w6 at*;go_wp2_with fail;go_roundw
     case rel=>exact⟨k+1,by omega,by go_num,Ay Hs.out HE.out,HEnd.out⟩
     case measure=>simp[intOf];omega
    ·have hd:decide ((0:Int)<(q:Int))=false:=by simp;omega
     go_wp2_with fail;go_quiet (fail);have HEnd:=zh (show Dc (fun b=>S b∨S' b) w.heap.size (wr.drewN nq) (.slice va' N vc') (Aq l more (k+1))∧Below w.heap.size w (wr.drewN nq) from
      ⟨by rw[HL.out];exact HY.out.1.below (CA wr _ nq (Below.refl _ _)),CA w _ nq HY.out.2⟩)
     clear HY;generalize wr.drewN nq=w6 at*;go_wp2_with fail;go_roundw
     case rel=>exact⟨k+1,by omega,by go_num,Ay Hs.out HE.out,HEnd.out⟩
     case measure=>simp[intOf];omega
  ·have HL:=zh (show Aq l more (k+1)=Aq l more k by rw[HjL.out];unfold Fq;rw[if_pos hat])
   have hk':lo (Aq l more k) (obj more k).id<(Aq l more k).length:=(by unfold CO at hat;simp at hat;exact hat.1);have HE:=zh (show BT l more k=if BG (obj (Aq l more k) (lo (Aq l more k) (obj more k).id)) (obj more k)=false then 6 else 0 by rw[HjE.out];unfold GO;simp[hat]);rw[hat] at hat0;rw[show Kn (Aq l more k) (obj more k).id=(lo (Aq l more k) (obj more k).id:Int) from hat0] at hHat;have HHat:=zh hHat;have Ho:=zh (H5.out k hlt);clear hHat hat0 hat hjr HjE HjL;generalize lo (Aq l more k) (obj more k).id=q at*;obtain⟨R,hR,hR1,_⟩:=Av wo;obtain⟨a5,n5,c5,la5,ln5,lc5,HN5,e5,_,_,_,h45,h55⟩:=Hst.out.open;cases e5;obtain⟨b5,off5,rfl,_,z0,z1,z2,z3⟩:=h45 (by omega);have HS:=zh (fun x (hx:In R x)=>FS (obj (Aq l more k) q) (obj more k) _ _ _ _ x ((h55 q hk').below (hR.below _ hx)) (Ho.out.below (HX.out.2.trans ((hR.below _ hx).mono HX.out.2.size))));have y0:=fun x (hx:In R x)=>k0 k x hlt (HX.out.2.trans ((hR.below _ hx).mono HX.out.2.size))
   have y1:=fun x (hx:In R x)=>k1 k x hlt (HX.out.2.trans ((hR.below _ hx).mono HX.out.2.size))
   have y2:=fun x (hx:In R x)=>k2 k x hlt (HX.out.2.trans ((hR.below _ hx).mono HX.out.2.size))
   have y3:=fun x (hx:In R x)=>k3 k x hlt (HX.out.2.trans ((hR.below _ hx).mono HX.out.2.size))
   have r0:=fun x (hx:In R x)=>z0 q x hk' (hR.below _ hx)
   have r1:=fun x (hx:In R x)=>z1 q x hk' (hR.below _ hx)
   have r2:=fun x (hx:In R x)=>z2 q x hk' (hR.below _ hx)
   have r3:=fun x (hx:In R x)=>z3 q x hk' (hR.below _ hx)
   have hRg:=BI hR;have hi3:=zk q;have hi4:(q:Int)<((Aq l more k).length:Int):=by omega
   clear z0 z1 z2 z3 k0 k1 k2 k3 h4 h45 h55 HN5 x0 x1 x2 x3;cases hs:BG (obj (Aq l more k) q) (obj more k)
   ·have HE6:=zh (show An (BT l more) n=6 by
     have e6:BT l more k=6:=by rw[HE.out,if_pos hs]
     rw[BX Hs.out (by rw[e6];decide) hlt,e6])
    have HEnd:=zh (show Cd l more=6∧Cs l more=[] from by
     have e1:Cd l more=6:=by rw[HwE.out,HE6.out];rfl
     exact⟨e1,by rw[HwL.out,e1];rfl⟩)
    have HB:=zh HX.out.2;rw[hs] at HS;go_wp2_with fail;refine HHat.out.mono ?_;rintro e w' ⟨rfl,rfl⟩;go_wp2_with fail;refine wp_region_quiet_below (by kernel_rfl) (by kernel_rfl) ?_
    repeat (quiet_step (exact Calls.regrown_of (HS.out _ (hRg _ _ _ hR1))))
    refine wpQuiet_nil ?_;intro _ hw';obtain⟨⟨dq,osq⟩,hw''⟩:=hw';subst hw'';have hR2:=hRg _ dq osq hR1;generalize Go.Sort.grow (redrawn _ dq) osq=w5 at*;go_wp2_with fail;go_ret2;rw[HEnd.out.1,HEnd.out.2];exact⟨_,rfl,Ai.nil _ _ _ _ (by omega),HB.out.trans ((hR.below _ hR2).mono HB.out.size)⟩
   ·have HE0:=zh (show BT l more k=0 by rw[HE.out,if_neg (by rw[hs];decide)])
    rw[hs] at HS;go_wp2_with fail;refine HHat.out.mono ?_;rintro e w' ⟨rfl,rfl⟩;go_wp2_with fail;refine wp_region_quiet_below (by kernel_rfl) (by kernel_rfl) ?_
    repeat (quiet_step (exact Calls.regrown_of (HS.out _ (hRg _ _ _ hR1))))
    refine wpQuiet_nil ?_;intro _ hw';obtain⟨⟨dq,osq⟩,hw''⟩:=hw';subst hw'';have hR2:=hRg _ dq osq hR1;generalize Go.Sort.grow (redrawn _ dq) osq=w5 at*;go_wp2_with fail;have HEnd:=zh (show Dc (fun b=>S b∨S' b) w.heap.size w5 _ (Aq l more (k+1))∧Below w.heap.size w w5 from
     ⟨by rw[HL.out];exact HX.out.1.below (hR.below _ hR2),HX.out.2.trans ((hR.below _ hR2).mono HX.out.2.size)⟩)
    go_roundw
    case rel=>exact⟨k+1,by omega,by go_num,Ay Hs.out HE0.out,HEnd.out⟩
    case measure=>simp[intOf];omega
 ·obtain rfl:k=n:=by omega
  have hjl:=Hjl.out k;have Hst:=zh (HX.out.1.store (by omega));have HC:=Eu (Aq l more k) _ _ wo Hst.out;obtain⟨va,vc,hvs⟩:=HX.out.1.shape;subst hvs;rw[Hs.out,if_pos rfl] at HwE;have HB:=zh HX.out.2;by_cases hc:Aj (Aq l more k)=0
  ·have HF:=zh (show Cs l more=Aq l more k∧Cd l more=0 from⟨by rw[HwL.out,HwE.out,if_pos hc],by rw[HwE.out,hc]⟩)
   rw[hc] at HC;have HCk:=zh HC;clear HC hc;go_wp2_with fail;refine HCk.out.mono ?_;rintro e w6 ⟨rfl,hb6⟩;have HEnd:=zh (And.intro (Hst.out.below hb6) (HB.out.trans (hb6.mono HB.out.size)));go_wp2_with fail;go_ret2;rw[HF.out.1,HF.out.2];exact⟨_,rfl,HEnd.out.1,HEnd.out.2⟩
  ·have HF:=zh (show Cs l more=[]∧Cd l more=Aj (Aq l more k) from⟨by rw[HwL.out,HwE.out,if_neg hc],HwE.out⟩)
   have hq2:(Aj (Aq l more k) !=0)=true:=by simpa using hc
   have HCk:=zh HC;clear HC hc;generalize Aj (Aq l more k)=cc at*;go_wp2_with fail;refine HCk.out.mono ?_;rintro e w6 ⟨rfl,hb6⟩;have HEnd:=zh (HB.out.trans (hb6.mono HB.out.size));go_wp2_with fail;go_ret2;rw[HF.out.1,HF.out.2];exact⟨_,rfl,Ai.nil _ _ _ _ (by omega),HEnd.out⟩
variable [Ghost]
def EK (l more:List Obj):Int:=if Aj l≠0 then Aj l else if 12<more.length then 2 else Ew more
theorem WF (l more:List Obj):DE l more=if EK l more≠0 then EK l more else Cd l more:=by
 unfold DE EK Ew;by_cases h1:Aj l=0
 ·by_cases h2:12<more.length
  ·simp[h1,h2]
  ·simp[h1,h2]
 ·simp[h1]
theorem IT {l more:List Obj} (h:EK l more=0):AD l∧l.length≤40∧more.length≤12:=by
 unfold EK at h;by_cases h1:Aj l=0
 ·by_cases h2:12<more.length
  ·simp[h1,h2] at h
  ·exact⟨AS h1,(BB h1).1,by omega⟩
 ·simp[h1] at h
def QY (l more:List Obj) (k:Nat) (c:Int):Prop:=(c=0∧Aj l=0∧more.length≤12∧An (fun k=>Aw (obj more k)) k=0)∨(c≠0∧c=EK l more)
theorem WD (l more:List Obj) (lv mv:Value) (S S':Nat→Prop) (w:World) (h:Ai S w lv l) (hm:Ai S' w mv more):
  Calls Tryz.prog 84 #[lv,mv] w fun e w'=>GF (fun b=>S b∨S' b) w w' e (CD l more) (DE l more):=by
 have HC:=zh (fun x (hx:Below w.heap.size w x)=>Eu l lv _ x (h.below hx));have HW:=zh (fun(hp:EK l more=0) x (hx:Below w.heap.size w x)=>PX l more lv mv S S' x (h.below hx) (hm.below hx) (IT hp).1 (by have:=(IT hp).2;omega) (by have:=(IT hp).2;omega));have HwE:=zh (WF l more);have HwL:=zh (show CD l more=if DE l more=0 then Aq l more more.length else[] from rfl);have HwL2:=zh (show Cs l more=if Cd l more=0 then Aq l more more.length else[] from rfl);obtain⟨la0,lc0,rfl⟩:=h.vshape;obtain⟨ma,n,mc,la,ln,lc,HN,rfl,h1,h2,h3,h4,h5⟩:=hm.open;have Hn:=zh HN.out.1;have H5:=zh h5;have HP:=zh (show EK l more=if Aj l≠0 then Aj l else if 12<n then 2 else Ew more by rw[Hn.out];rfl);have Hend:=zh (show(EK l more=0→DE l more=Cd l more∧CD l more=Cs l more)∧(EK l more≠0→DE l more=EK l more∧CD l more=[]) from
  ⟨fun e=>by
   have e1:DE l more=Cd l more:=by rw[HwE.out,if_neg (by simpa using e)]
   exact⟨e1,by rw[HwL.out,HwL2.out,e1]⟩,
  fun e=>by
   have e1:DE l more=EK l more:=by rw[HwE.out,if_pos e]
   exact⟨e1,by rw[HwL.out,e1,if_neg e]⟩⟩)
 clear h hm h5 HN HwE HwL HwL2;obtain⟨R,hR,hR1,_⟩:=Av w;have hRb:=hR.below;have hRn:=hR.next
 have h3:(Aj l=0∧12<n)∨(Aj l=0∧¬12<n)∨Aj l≠0:=by
  by_cases a:Aj l=0
  ·by_cases b:12<n
   ·exact .inl ⟨a,b⟩
   ·exact .inr (.inl ⟨a,b⟩)
  ·exact .inr (.inr a)
 rcases h3 with⟨h1,h2⟩|⟨h1,h2⟩|h1
 case' inl=>
  have hq:(Aj l==0)=true:=by simpa using h1
  have hd:decide ((12:Int)<(n:Int))=true:=by simp;omega
  have Hp0:=zh (show QY l more 0 2 from .inr ⟨by decide,by rw[HP.out];simp[h1,h2]⟩);clear h1
 case' inr.inl=>
  have hq:(Aj l==0)=true:=by simpa using h1
  have hd:decide ((12:Int)<(n:Int))=false:=by simp;omega
  have Hp0:=zh (show QY l more 0 (Aj l) from .inl ⟨h1,h1,by have:=Hn.out;omega,rfl⟩);clear h1
 case' inr.inr=>
  have hq:(Aj l==0)=false:=by simpa using h1
  have Hp0:=zh (show QY l more 0 (Aj l) from .inr ⟨h1,by rw[HP.out];simp[h1]⟩);clear h1
 all_goals
  go_enter Tryz.func84, Tryz.ntmps84
  go_wp2_with fail;refine(HC.out _ (Below.refl _ _)).mono ?_;rintro e w1 ⟨rfl,hb1⟩;have hR3:=hRn _ _ hR1 hb1;clear hb1 hR1;go_wp2_with fail;go_loopw [6,7] (fun c i wx=>∃(k:Nat) (cc:Int),k≤n∧i=.int .i64 k∧c=.int .i64 cc∧Hid (QY l more k cc)∧In R wx) (fun _ i _=>n-(intOf i).toNat)
  case atStart=>exact⟨0,_,by omega,rfl,rfl,Hp0.out,hR3⟩
  obtain⟨k,cc,hk,rfl,rfl,HPk,hRw⟩:=hrel;clear hR3;by_cases hc:cc=0
  ·subst hc
   have hP:=HPk.out.resolve_right (fun h=>h.1 rfl);have HP0:=zh hP;clear hP;have hq:((0:Int)==0)=true:=rfl;by_cases hlt:k<n
   ·obtain⟨b,off,rfl,hb,k0,k1,k2,k3⟩:=h4 (by omega)
    have x0:=k0 k wr hlt (hRb _ hRw);have x1:=k1 k wr hlt (hRb _ hRw);have x2:=k2 k wr hlt (hRb _ hRw);have x3:=k3 k wr hlt (hRb _ hRw);have HO:=zh (Ed (obj more k) _ _ wr ((H5.out k hlt).below (hRb _ hRw)));have hi1:=zk k;have hi2:(k:Int)<(n:Int):=by omega
    clear k0 k1 k2 k3 h4;go_wp2_with fail;refine HO.out.mono ?_;rintro e w3 ⟨rfl,hb3⟩;have hR4:=hRn _ _ hRw hb3;have HPn:=zh (show QY l more (k+1) (Aw (obj more k)) by
     by_cases h0:Aw (obj more k)=0
     ·exact .inl ⟨h0,HP0.out.2.1,HP0.out.2.2.1,Ay HP0.out.2.2.2 h0⟩
     ·refine .inr ⟨h0,?_⟩
      rw[HP.out,if_neg (by simpa using HP0.out.2.1),if_neg (by have:=HP0.out.2.2.1;have:=Hn.out;omega)];unfold Ew;rw[BX HP0.out.2.2.2 h0 (by have:=Hn.out;omega)])
    clear x0 x1 x2 x3 hb3 HO;go_wp2_with fail;go_roundw
    case rel=>exact⟨k+1,_,by omega,by go_num,rfl,HPn,hR4⟩
    case measure=>simp[intOf];omega
   ·obtain rfl:k=n:=by omega
    have hz:EK l more=0:=by
     rw[HP.out,if_neg (by simpa using HP0.out.2.1),if_neg (by have:=HP0.out.2.2.1;have:=Hn.out;omega)];have:=HP0.out.2.2.2;rw[Hn.out] at this;exact this
    have HE:=zh (Hend.out.1 hz);have HWx:=zh (HW.out hz wr (hRb _ hRw));clear hz;go_wp2_with fail;refine HWx.out.mono ?_;rintro e w3 ⟨v3,rfl,hv3,hb3⟩;obtain⟨a3,c3,rfl⟩:=hv3.vshape;have HF:=zh (And.intro (hv3.weaken (S':=fun b=>(S b∨S' b)∨w.heap.size≤b) fun b hb=>hb.imp id (Nat.le_trans (hRb _ hRw).size)) (Al (hRb _ hRw) hb3));clear hv3 hb3;go_wp2_with fail;go_ret2;rw[HE.out.1,HE.out.2];exact⟨_,rfl,HF.out.1,HF.out.2⟩
  ·have hP:=HPk.out.resolve_left (fun h=>hc h.1)
   have HE:=zh (Hend.out.2 (by rw[←hP.2];exact hc));have HB:=zh (hRb _ hRw);have HP0:=zh hP;have hq:(cc==0)=false:=by simpa using hc
   have hq2:(cc !=0)=true:=by simpa using hc
   clear hP hc h4;by_cases hlt:k<n
   ·go_wp2_with fail
    go_ret2;rw[HE.out.1,HE.out.2,←HP0.out.2];exact⟨_,rfl,Ai.nil _ _ _ _ (by omega),HB.out⟩
   ·go_wp2_with fail
    go_ret2;rw[HE.out.1,HE.out.2,←HP0.out.2];exact⟨_,rfl,Ai.nil _ _ _ _ (by omega),HB.out⟩
variable [Ghost]
def Wr (x:World) (o:Obj) (b off:Nat) (lv:Value):Prop:=
 x.cell? ⟨b,off,none⟩=some (.int .i64 o.id)∧x.cell? ⟨b,off+1,none⟩=some (.int .i64 o.kind)∧x.cell? ⟨b,off+2,none⟩=some lv∧x.cell? ⟨b,off+3,none⟩=some (.string o.text)
theorem Wr.below {x y:World} {o:Obj} {b off:Nat} {lv:Value} (h:Wr x o b off lv) (hb:Below x.heap.size x y):Wr y o b off lv:=
 ⟨Ae hb h.1,Ae hb h.2.1,Ae hb h.2.2.1,Ae hb h.2.2.2⟩
variable [Ghost]
end Go.Proofs.YtgbnlmplkealdaaGreatDoor
