
/- WalkB: Walk6, Walk7, Walk8, Walk9. -/
import Derived.Test.YtgbnlmplkealdaaGreatDoorC4
set_option linter.all false
set_option maxHeartbeats 4000000
set_option maxRecDepth 100000
namespace Go.Proofs.YtgbnlmplkealdaaGreatDoor
open Go.RowKit
variable [Ghost]
def LD (w w':World) (e:Ending) (l:List Obj) (c:Int):Prop:=∃v,e=.returned (.tuple #[v,.int .i64 c])∧Ai (fun _=>True) w' v l∧Below w.heap.size w w'
def GG (w w':World) (e:Ending) (l:List Obj) (c:Int):Prop:=∃v,e=.returned (.tuple #[v,.int .i64 c])∧Ai (fun b=>w.heap.size≤b) w' v l∧Below w.heap.size w w'
theorem GG.e {w w':World} {e:Ending} {l:List Obj} {c:Int} (h:GG w w' e l c):LD w w' e l c:=let⟨v,h1,h2,h3⟩:=h;⟨v,h1,h2.weaken fun _ _=>trivial,h3⟩
theorem Dd.below {S:Nat→Prop} {B:Nat} {w w':World} {v:Value} {l:List Obj} (h:Dd S B w v l) (hb:Below w.heap.size w w'):Dd S B w' v l:=by
 obtain⟨lvs,h1,h2,h3⟩:=h;exact⟨lvs,fun b hS=>⟨Nat.lt_of_lt_of_le (h1 b hS).1 hb.size,(h1 b hS).2⟩,DR h2 hb,fun i hi=>(h3 i hi).below hb⟩
def El (B:Nat) (w:World) (v:Value) (l:List Obj):Prop:=∃S:Nat→Prop,Dd S B w v l∧∀b,S b→B≤b
theorem El.gath {B:Nat} {w:World} {v:Value} {l:List Obj} (h:El B w v l):GV B w v l:=h.choose_spec.1.gath
theorem El.below {B:Nat} {w w':World} {v:Value} {l:List Obj} (h:El B w v l) (hb:Below w.heap.size w w'):El B w' v l:=let⟨S,h1,h2⟩:=h;⟨S,h1.below hb,h2⟩
theorem El.store {B:Nat} {w:World} {v:Value} {l:List Obj} (h:El B w v l) (hl:l.length*56≤140737488351232):Ai (fun b=>B≤b) w v l:=by
 obtain⟨S,⟨lvs,h1,h2,h3⟩,h4⟩:=h;refine⟨lvs,Iu h2 (fun g hg=>(h2.lt g hg).1) hl (fun i hi j u hu=>?_),fun i hi=>(h3 i hi).weaken h4⟩;exact CJ (cs:=fun i=>AG (obj l i) (lvs i)) (fun _ _=>rfl) i hi j u hu
theorem El.list {B:Nat} {w:World} {v:Value} {l l':List Obj} (e:l'=l) (h:El B w v l'):El B w v l:=e ▸ h
def Ws (w w':World) (e:Ending) (xs:List Int) (c:Int):Prop:=∃v,e=.returned (.tuple #[v,.int .i64 c])∧Bb (fun _=>True) w' v xs∧Below w.heap.size w w'
def QZ (w w':World) (e:Ending) (xs:List Int) (c:Int):Prop:=∃v,e=.returned (.tuple #[v,.int .i64 c])∧Bb (fun b=>w.heap.size≤b) w' v xs∧Below w.heap.size w w'
theorem QZ.e {w w':World} {e:Ending} {xs:List Int} {c:Int} (h:QZ w w' e xs c):Ws w w' e xs c:=let⟨v,h1,h2,h3⟩:=h;⟨v,h1,h2.weaken fun _ _=>trivial,h3⟩
variable [Ghost]
theorem Jy {l:List Obj} {par:Bool}:∀(p:Nat) (M M':Nat→Bool),p≤l.length→(∀j,j<l.length→M j=M' j)→∀j,j<l.length→Ki l par p M j=Ki l par p M' j:=by
 intro p
 induction p with
 |zero=>exact fun M M' _ h=>h
 |succ p ih=>
  intro M M' hp h j hj;unfold Ki;exact ih _ _ (by omega) (fun i hi=>by rw[h i hi,h p (by omega)]) j hj
def Gk (l:List Obj) (par:Bool) (i k:Nat) (M Mk:Nat→Bool):Prop:=
 ∀j,j<l.length→(Mk j=true↔M j=true∨(M i=true∧∃k',k'<k∧(par=true→0<k')∧(obj l j).id=Ct (obj l i).links k'))
theorem RY (l:List Obj) (par:Bool) (i:Nat) (M:Nat→Bool):Gk l par i 0 M M:=fun j _=>⟨.inl,fun h=>h.elim id (fun⟨_,k',h,_⟩=>absurd h (by omega))⟩
theorem RX {l:List Obj} {par:Bool} {i k:Nat} {M Mk:Nat→Bool} (h:Gk l par i k M Mk) (hk:par=true∧k=0):Gk l par i (k+1) M Mk:=fun j hj=>by
 rw[h j hj];constructor
 ·rintro(h1|⟨h1,k',h2,h3,h4⟩)
  ·exact .inl h1
  ·exact .inr ⟨h1,k',by omega,h3,h4⟩
 ·rintro(h1|⟨h1,k',h2,h3,h4⟩)
  ·exact .inl h1
  ·have:=h3 hk.1;omega
theorem Mu {l:List Obj} {par:Bool} {i k c:Nat} {M Mk:Nat→Bool} (hr:AD l) (h:Gk l par i k M Mk) (hM:M i=true) (hk:par=true→0<k) (hc:c<l.length) (hid:(obj l c).id=Ct (obj l i).links k):
  Gk l par i (k+1) M (fun j=>Mk j||j==c):=fun j hj=>by
 simp only[Bool.or_eq_true,beq_iff_eq];rw[h j hj];constructor
 ·rintro((h1|⟨h1,k',h2,h3,h4⟩)|h1)
  ·exact .inl h1
  ·exact .inr ⟨h1,k',by omega,h3,h4⟩
  ·subst h1;exact .inr ⟨hM,k,by omega,hk,hid⟩
 ·rintro(h1|⟨h1,k',h2,h3,h4⟩)
  ·exact .inl (.inl h1)
  ·by_cases e:k'=k
   ·subst e;exact .inr (hr.inj hj hc (h4.trans hid.symm))
   ·exact .inl (.inr ⟨h1,k',by omega,h3,h4⟩)
theorem NI {o:Obj} {par:Bool} {x:Int}:x∈EN o par↔∃k,k<o.links.length∧(par=true→0<k)∧x=Ct o.links k:=by
 constructor
 ·intro h
  obtain⟨k,h1,h2,h3⟩:=Ii h;exact⟨k,h1,h3,h2⟩
 ·rintro⟨k,h1,h2,rfl⟩
  cases par
  ·show Ct o.links k∈o.links
   rw[DV h1];exact List.getElem_mem h1
  ·have hk:=h2 rfl
   show Ct o.links k∈o.links.drop 1
   rw[List.mem_iff_getElem];refine⟨k-1,by simp;omega,?_⟩;rw[List.getElem_drop,DV h1];congr 1;omega
theorem NW {l:List Obj} {par:Bool} {i k:Nat} {M Mk:Nat→Bool} (h:Gk l par i k M Mk) (hk:k=(obj l i).links.length∨M i=false):∀j,j<l.length→Mk j=(M j||(M i && Fc l par i j)):=by
 intro j hj;rw[Bool.eq_iff_iff,h j hj];simp only[Bool.or_eq_true,Bool.and_eq_true,Fc,decide_eq_true_eq,List.any_eq_true,beq_iff_eq];constructor
 ·rintro(h1|⟨h1,k',h2,h3,h4⟩)
  ·exact .inl h1
  ·rcases hk with hk|hk
   ·exact .inr ⟨h1,hj,_,NI.2 ⟨k',by omega,h3,rfl⟩,h4.symm⟩
   ·rw[hk] at h1;cases h1
 ·rintro(h1|⟨h1,_,x,hx,hxe⟩)
  ·exact .inl h1
  ·rcases hk with hk|hk
   ·obtain⟨k',h2,h3,rfl⟩:=NI.1 hx
    exact .inr ⟨h1,k',by omega,h3,hxe.symm⟩
   ·rw[hk] at h1;cases h1
def Wt (l:List Obj) (par:Bool) (tips:List Int) (w:World) (e:Ending) (w':World):Prop:=
 ∃bm M,e=.returned (.slice (some ⟨bm,0,none⟩) l.length l.length)∧w'.heap[bm]?=some (.cells (BQ l.length M) 4 (0,0))∧(∀j,j<l.length→M j=FR l par tips j)∧Below w.heap.size w w'
def Rc (l:List Obj) (tips:List Int) (k:Nat) (M:Nat→Bool):Prop:=∀j,j<l.length→(M j=true↔∃k',k'<k∧(obj l j).id=Ct tips k')
theorem TZ {l:List Obj} {tips:List Int} {k c:Nat} {M:Nat→Bool} (hr:AD l) (h:Rc l tips k M) (hc:c<l.length) (hid:(obj l c).id=Ct tips k):Rc l tips (k+1) (fun j=>M j||j==c):=fun j hj=>by
 simp only[Bool.or_eq_true,beq_iff_eq];rw[h j hj];constructor
 ·rintro(⟨k',h1,h2⟩|h1)
  ·exact⟨k',by omega,h2⟩
  ·subst h1;exact⟨k,by omega,hid⟩
 ·rintro⟨k',h1,h2⟩
  by_cases e:k'=k
  ·subst e;exact .inr (hr.inj hj hc (h2.trans hid.symm))
  ·exact .inl ⟨k',by omega,h2⟩
theorem Wa {l:List Obj} {tips:List Int} {M:Nat→Bool} (h:Rc l tips tips.length M):∀j,j<l.length→M j=VZ l tips j:=fun j hj=>by
 rw[Bool.eq_iff_iff,h j hj];unfold VZ;rw[List.any_eq_true];constructor
 ·rintro⟨k,h1,h2⟩
  exact⟨Ct tips k,by rw[DV h1];exact List.getElem_mem h1,by rw[h2];simp⟩
 ·rintro⟨x,hx,hxe⟩
  obtain⟨k,hk,rfl⟩:=List.getElem_of_mem hx;exact⟨k,hk,by rw[DV hk];exact(by simpa using hxe:tips[k]=(obj l j).id).symm⟩
theorem Sn (l:List Obj) (par:Bool) (tips:List Int) (hR:Right l) (S S':Nat→Prop) (lv tv:Value) (w:World)
  (hst:Ai S w lv l) (htv:Bb S' w tv tips) (hpl:∀k,k<tips.length→AC l (Ct tips k)≠0):
  Calls Tryz.prog 160 #[lv,tv,.bool par] w (Wt l par tips w):=by
 obtain⟨a,cap,n,hlv,hnl,hn56⟩:∃a cap n,lv=.slice a n cap∧n=l.length∧n*56≤140737488351232:=let⟨_,⟨a,cap,hv,_,_,h,_⟩,_⟩:=hst;⟨a,cap,_,hv,rfl,h⟩;subst hlv;obtain⟨ta,tn,tcap,HT,rfl,t1,t2,t3,t4⟩:=htv.open;have Hst:=zh hst.lt;have Htv:=zh htv.lt;have Hnl:=zh hnl;have hn40:n≤40:=by rw[hnl];exact hR.many
 have hmk:=NY n (by omega);have Hpl:=zh hpl;have HR:=zh hR;clear t4 hst htv hnl hpl hR
 go_enter Tryz.func160, Tryz.ntmps160
 go_wp2_with fail;obtain⟨w0,hw0⟩:∃w0:World,w0=(w.alloc (.cells (BQ n fun _=>false) 4)):=⟨_,rfl⟩;have HA0:=zh (show w0.heap[w.heap.size]?=some (.cells (BQ l.length fun _=>false) 4 (0,0)) by
  rw[hw0,←Hnl.out];exact heap_alloc_new w _)
 have HB0:=zh (show Below w.heap.size w w0 by rw[hw0];exact(Below.refl _ _).alloc (Nat.le_refl _) _);have Hst0:=zh (Hst.out.below HB0.out);have Htv0:=zh (Htv.out.below HB0.out);rw[←hw0];clear hw0 hmk;go_loopw [8] (fun s wr=>∃(k:Nat) (Mk:Nat→Bool),k≤tn∧s=.int .i64 k∧Hid (wr.heap[w.heap.size]?=some (.cells (BQ l.length Mk) 4 (0,0))∧Rc l tips k Mk∧AK (fun b=>b=w.heap.size) w0 wr)) (fun s _=>tn-(intOf s).toNat)
 case atStart=>exact⟨0,_,by omega,rfl,HA0.out,fun j hj=>⟨(fun h=>by cases h),fun⟨k',h,_⟩=>absurd h (by omega)⟩,AK.refl _ _⟩
 obtain⟨k,Mk,hk,rfl,HK⟩:=hrel;by_cases hkm:k<tn
 ·obtain⟨p1,p2,p3,p4,p5⟩:=HR.out.rising.place (Hpl.out k (by have:=HT.out;omega))
  have hcall:=DQ l (.slice a n cap) _ (Ct tips k) wr (Hst0.out.upd HK.out.2.2 (fun b hb=>by have:=hb.2;omega));rw[p3] at hcall;have Hcall:=zh hcall;obtain⟨a5,n5,c5,HN5,e5,_,_,_,h5⟩:=(Htv0.out.upd HK.out.2.2 (fun b hb=>by have:=hb.2;omega)).open;cases e5;obtain⟨b5,off5,rfl,_,hc5⟩:=h5 (by omega);have hcell:=hc5 k wr hkm (Below.refl _ _);generalize lo l (Ct tips k)=c at*;have cm:=Aa (j:=c) HK.out.1 (CT p2);have fm:=Ad (j:=c) HK.out.1;have hcn:c<n:=by rw[Hnl.out];exact p2
  have hi1:=zk c;have hi2:(c:Int)<(n:Int):=by omega
  have HX:=zh (show(wr.setCell ⟨w.heap.size,c,none⟩ (.bool true)).heap[w.heap.size]?=some (.cells (BQ l.length (fun j=>Mk j||j==c)) 4 (0,0))∧Rc l tips (k+1) (fun j=>Mk j||j==c)∧AK (fun b=>b=w.heap.size) w0 (wr.setCell ⟨w.heap.size,c,none⟩ (.bool true)) from
   ⟨by rw[Ah HK.out.1,Ge p2],TZ HR.out.rising HK.out.2.1 p2 p4,AK.setCell (T:=fun b=>b=w.heap.size) HK.out.2.2 (fun _=>rfl) _⟩)
  clear hcall p1 p2 p3 p4 p5 hc5 h5 HN5;go_wp2_with fail;refine Hcall.out.mono ?_;rintro e w5 ⟨rfl,rfl⟩;go_wp2_with fail;go_roundw
  case rel=>exact⟨k+1,_,by omega,by go_num,HX⟩
  case measure=>simp[intOf];omega
 ·obtain rfl:k=tn:=by omega
  have hm:=HK.out.2.1;rw[HT.out] at hm;have HM0:=zh (Wa hm);clear hm;go_wp2_with fail;go_loopw [9] (fun s wr=>∃(p:Nat) (Mp:Nat→Bool),p≤n∧s=.int .i64 ((p:Int)-1)∧Hid (wr.heap[w.heap.size]?=some (.cells (BQ l.length Mp) 4 (0,0))∧(∀j,j<l.length→Ki l par p Mp j=FR l par tips j)∧AK (fun b=>b=w.heap.size) w0 wr)) (fun s _=>(intOf s+1).toNat)
  case atStart=>exact⟨n,Mk,by omega,rfl,HK.out.1,fun j hj=>by unfold FR;rw[Hnl.out];exact Jy _ _ _ (Nat.le_refl _) HM0.out j hj,HK.out.2.2⟩
  obtain⟨p,Mp,hp,rfl,HP⟩:=hrel;clear HK HM0;rcases Nat.eq_zero_or_pos p with hp0|hp0
  ·subst hp0
   go_wp2_with fail;go_ret;refine⟨w.heap.size,Mp,by rw[←Hnl.out];rfl,HP.out.1,HP.out.2.1,HB0.out.trans (HP.out.2.2.below (by have:=HB0.out.size;omega) (fun b hb=>by omega))⟩
  ·obtain⟨i,rfl⟩:∃i,p=i+1:=⟨p-1,by omega⟩
   rw[show((i+1:Nat):Int)-1=(i:Int) by omega];clear hp0;have hin:i<n:=by omega
   have hil:i<l.length:=by have:=Hnl.out;omega
   have HIL:=zh hil;clear hil;have hi1:=zk i;have hi2:(i:Int)<(n:Int):=by omega
   have hst1:=Hst0.out.upd HP.out.2.2 (fun b hb=>by have:=hb.2;omega);obtain⟨a5,n5,cap5,la,ln,lc,HN5,e5,_,_,_,h45,h55⟩:=hst1.open;cases e5;obtain⟨b,off,rfl,_,k0,k1,k2,k3⟩:=h45 (by omega);have Hlinks:=zh (h55 i hin).1;have Hln:=zh (HN5.out.2 i);have x2:=fun x (hx:Below wr.heap.size wr x)=>k2 i x hin hx
   have Hx2:=zh (fun y (hu:AK (fun b=>b=w.heap.size) w0 y)=>by
    have hsty:=Hst0.out.upd hu (fun b hb=>by have:=hb.2;omega);exact hsty)
   obtain⟨wo,rfl⟩:∃wo:World,wo=wr:=⟨_,rfl⟩;have Hst1:=zh hst1;have Hb:Hid (w0.cell? ⟨b,off+i*4+2,none⟩=some (.slice (la i) (ln i) (lc i))∧¬b=w.heap.size∧b<w0.heap.size):=by
    obtain⟨a6,n6,cap6,la6,ln6,lc6,HN6,e6,_,_,_,h46,h56⟩:=Hst0.out.open;cases e6;obtain⟨b6,off6,e6,hS6,_,_,k26,_⟩:=h46 (by omega);cases e6;have hlt:=hS6.2;have hc0:=k26 i w0 hin (Below.refl _ _);have hne:¬b=w.heap.size:=by omega
    have hc1:=(HP.out.2.2.cell hc0 hne);have hc2:=k2 i wo hin (Below.refl _ _);rw[hc1] at hc2;have hw0:=World.block_lt_of_cell? w0 _ hc0;exact⟨by rw[hc0];exact hc2,hne,hw0⟩
   clear k0 k1 k2 k3 x2 h45 h55 hst1 Hx2 HN5;have Hlk:Hid (Bb (fun b=>b<w.heap.size) w0 (.slice (la i) (ln i) (lc i)) (obj l i).links):=by
    obtain⟨a6,n6,cap6,la6,ln6,lc6,HN6,e6,_,_,_,h46,h56⟩:=Hst0.out.open;cases e6;obtain⟨b6,off6,e6,hS6,_,_,k26,_⟩:=h46 (by omega);cases e6;have hc0:=k26 i w0 hin (Below.refl _ _);have hb1:=Hb.out.1;rw[hc0] at hb1;simp only[Option.some.injEq] at hb1;rw[←hb1];exact(h56 i hin).1.weaken (fun b hb=>hb.2)
   generalize la i=a7 at*;generalize ln i=m at*;generalize lc i=c7 at*;have hm8:m*8≤140737488351232:=by obtain⟨⟨_,_,hv,_,_,h,_⟩,_⟩:=Hlk.out;cases hv;exact h
   go_wp2_with fail;go_loopw [10] (fun s wr=>∃(k:Nat) (Mk:Nat→Bool),k≤m∧s=.int .i64 k∧Hid (wr.heap[w.heap.size]?=some (.cells (BQ l.length Mk) 4 (0,0))∧Gk l par i k Mp Mk∧AK (fun b=>b=w.heap.size) w0 wr)) (fun s _=>m+1-(intOf s).toNat)
   case atStart=>exact⟨0,Mp,by omega,rfl,HP.out.1,RY l par i Mp,HP.out.2.2⟩
   obtain⟨k,Mk,hk,rfl,HK⟩:=hrel;have hx:=HK.out.2.2.cell Hb.out.1 Hb.out.2.1;have cm:=Aa (j:=i) HK.out.1 (CT HIL.out);by_cases hkm:k<m
   ·have hd:decide ((k:Int)<(m:Int))=true:=by simp;omega
    cases hMi:Mk i
    ·rw[hMi] at cm
     have HE:=zh (show Mp i=false by
      cases h:Mp i
      ·rfl
      ·have:=(HK.out.2.1 i HIL.out).2 (.inl h);rw[hMi] at this;cases this)
     have HX:=zh (show∀j,j<l.length→Ki l par i Mk j=FR l par tips j from fun j hj=>by
      rw[←HP.out.2.1 j hj];exact Jy _ _ _ (Nat.le_of_lt HIL.out) (NW HK.out.2.1 (.inr HE.out)) j hj)
     go_wp2_with fail;go_roundw
     case rel=>exact⟨i,Mk,by omega,rfl,HK.out.1,HX.out,HK.out.2.2⟩
     case measure=>simp[intOf]
    ·rw[hMi] at cm
     cases par
     ·cases hd0:decide (0<k)
      all_goals
       have hkl:k<(obj l i).links.length:=by have:=Hln.out;omega
       obtain⟨c,hci,hid,_⟩:=HR.out.linked HIL.out hkl;have hcl:c<l.length:=by have:=HIL.out;omega
       have hat:Kn l (Ct (obj l i).links k)=(c:Int):=by rw[←hid];exact HR.out.rising.at_self hcl
       have hcall:=DQ l (.slice (some ⟨b,off,none⟩) n cap) _ (Ct (obj l i).links k) wr (Hst0.out.upd HK.out.2.2 (fun b hb=>by have:=hb.2;omega));rw[hat] at hcall;have Hcall:=zh hcall;have HMp:=zh (show Mp i=true from by
        rcases(HK.out.2.1 i HIL.out).1 hMi with h|⟨h,_⟩
        ·exact h
        ·exact h)
       obtain⟨a8,n8,c8,HN8,e8,_,_,_,h8⟩:=(Hlk.out.upd HK.out.2.2 (fun b hb h=>by omega)).open;cases e8;obtain⟨b8,off8,e8,_,hc8⟩:=h8 (by omega);rw[e8] at hx;have hcell:=hc8 k wr hkm (Below.refl _ _);have cmc:=Aa (j:=c) HK.out.1 (CT hcl);have fmc:=Ad (j:=c) HK.out.1;have hcn:c<n:=by omega
       have hi3:=zk c;have hi4:(c:Int)<(n:Int):=by omega
       have HX:=zh (show(wr.setCell ⟨w.heap.size,c,none⟩ (.bool true)).heap[w.heap.size]?=some (.cells (BQ l.length (fun j=>Mk j||j==c)) 4 (0,0))∧Gk l false i (k+1) Mp (fun j=>Mk j||j==c)∧AK (fun b=>b=w.heap.size) w0 (wr.setCell ⟨w.heap.size,c,none⟩ (.bool true)) from
        ⟨by rw[Ah HK.out.1,Ge hcl],Mu HR.out.rising HK.out.2.1 HMp.out (fun e=>by cases e) hcl hid,AK.setCell (T:=fun b=>b=w.heap.size) HK.out.2.2 (fun _=>rfl) _⟩)
       clear hcall hat hid hci hcl hkl hc8 h8 HN8;go_wp2_with fail;refine Hcall.out.mono ?_;rintro e w5 ⟨rfl,rfl⟩;go_wp2_with fail;go_roundw
       case rel=>exact⟨k+1,_,by omega,by go_num,HX⟩
       case measure=>simp[intOf];omega
     ·by_cases hk0:0<k
      ·have hd0:decide (0<k)=true:=by simpa using hk0
       have hkl:k<(obj l i).links.length:=by have:=Hln.out;omega
       obtain⟨c,hci,hid,_⟩:=HR.out.linked HIL.out hkl;have hcl:c<l.length:=by have:=HIL.out;omega
       have hat:Kn l (Ct (obj l i).links k)=(c:Int):=by rw[←hid];exact HR.out.rising.at_self hcl
       have hcall:=DQ l (.slice (some ⟨b,off,none⟩) n cap) _ (Ct (obj l i).links k) wr (Hst0.out.upd HK.out.2.2 (fun b hb=>by have:=hb.2;omega));rw[hat] at hcall;have Hcall:=zh hcall;have HMp:=zh (show Mp i=true from by
        rcases(HK.out.2.1 i HIL.out).1 hMi with h|⟨h,_⟩
        ·exact h
        ·exact h)
       obtain⟨a8,n8,c8,HN8,e8,_,_,_,h8⟩:=(Hlk.out.upd HK.out.2.2 (fun b hb h=>by omega)).open;cases e8;obtain⟨b8,off8,e8,_,hc8⟩:=h8 (by omega);rw[e8] at hx;have hcell:=hc8 k wr hkm (Below.refl _ _);have cmc:=Aa (j:=c) HK.out.1 (CT hcl);have fmc:=Ad (j:=c) HK.out.1;have hcn:c<n:=by omega
       have hi3:=zk c;have hi4:(c:Int)<(n:Int):=by omega
       have HX:=zh (show(wr.setCell ⟨w.heap.size,c,none⟩ (.bool true)).heap[w.heap.size]?=some (.cells (BQ l.length (fun j=>Mk j||j==c)) 4 (0,0))∧Gk l true i (k+1) Mp (fun j=>Mk j||j==c)∧AK (fun b=>b=w.heap.size) w0 (wr.setCell ⟨w.heap.size,c,none⟩ (.bool true)) from
        ⟨by rw[Ah HK.out.1,Ge hcl],Mu HR.out.rising HK.out.2.1 HMp.out (fun _=>hk0) hcl hid,AK.setCell (T:=fun b=>b=w.heap.size) HK.out.2.2 (fun _=>rfl) _⟩)
       clear hcall hat hid hci hcl hkl hc8 h8 HN8;go_wp2_with fail;refine Hcall.out.mono ?_;rintro e w5 ⟨rfl,rfl⟩;go_wp2_with fail;go_roundw
       case rel=>exact⟨k+1,_,by omega,by go_num,HX⟩
       case measure=>simp[intOf];omega
      ·have hd0:decide (0<k)=false:=by simpa using hk0
       have HX:=zh (show Gk l true i (k+1) Mp Mk from RX HK.out.2.1 ⟨rfl,by omega⟩);go_wp2_with fail;go_roundw
       case rel=>exact⟨k+1,Mk,by omega,by go_num,HK.out.1,HX.out,HK.out.2.2⟩
       case measure=>simp[intOf];omega
   ·obtain rfl:k=m:=by omega
    have hd:decide ((k:Int)<(k:Int))=false:=by simp
    have HX:=zh (show∀j,j<l.length→Ki l par i Mk j=FR l par tips j from fun j hj=>by
     rw[←HP.out.2.1 j hj];exact Jy _ _ _ (Nat.le_of_lt HIL.out) (NW HK.out.2.1 (.inl Hln.out)) j hj)
    go_wp2_with fail;go_roundw
    case rel=>exact⟨i,Mk,by omega,rfl,HK.out.1,HX.out,HK.out.2.2⟩
    case measure=>simp[intOf]
variable [Ghost]
theorem Ai.vshape {S:Nat→Prop} {w:World} {v:Value} {l:List Obj} (h:Ai S w v l):∃a c,v=.slice a l.length c:=let⟨_,⟨a,cap,hv,_⟩,_⟩:=h;⟨a,cap,hv⟩
theorem Qx (l:List Obj) (old newer:Int) (lv:Value) (S:Nat→Prop) (w:World) (h:Ai S w lv l) (hR:Right l) (h1:AC l old≠0) (h2:AC l newer≠0) (hi:Dy newer):
  Calls Tryz.prog 144 #[lv,.int .i64 old,.int .i64 newer] w fun e w'=>e=.returned (.bool (Dj l old newer))∧Below w.heap.size w w':=by
 obtain⟨p1,p2,p3,p4,p5⟩:=hR.rising.place h1;have HI:=zh (GN w [newer] 3 w.heap.size rfl (by simp) (by intro x hx;simp only[List.mem_cons,List.not_mem_nil,or_false] at hx;subst hx;exact hi));have hb1:Below w.heap.size w (w.alloc (.cells #[.int .i64 newer] 3)):=bal;have Hro:=zh (Sn l true [newer] hR S _ _ _ _ (h.below hb1) HI.out (fun k hk=>by
  have h0:k=0:=by simp at hk;omega
  subst h0;exact h2))
 have Hat:=zh (fun x (hx:Below w.heap.size w x)=>by have:=DQ l lv S old x (h.below hx);rw[p3] at this;exact this);have Hb:=zh (show Dj l old newer=FR l true [newer] (lo l old) by unfold Dj;rw[p3];rfl);obtain⟨sa,sc,rfl⟩:=h.vshape;generalize hj:lo l old=j at*;have Hj:=zh p2;have Hb1:=zh hb1;clear p1 p2 p3 p4 p5 hj h1 h2 h hR hb1
 go_enter Tryz.func144, Tryz.ntmps144
 go_wp2_with fail;refine Hro.out.mono ?_;rintro e w3 ⟨bm,M,rfl,hbm,hM,hb3⟩;have hb4:=Al Hb1.out hb3;have hMj:=hM j Hj.out;have cm:=Aa (j:=j) hbm (CT Hj.out);rw[hMj,←Hb.out] at cm;have hjn:j<l.length:=Hj.out;have hi1:=zk j;have hi2:(j:Int)<(l.length:Int):=by omega
 have HX:=zh hb4;clear hMj hbm hM hb3 hb4;go_wp2_with fail;refine(Hat.out _ HX.out).mono ?_;rintro e w5 ⟨rfl,rfl⟩;go_wp2_with fail;go_ret;exact⟨rfl,HX.out⟩
def BZ (xs ys:List Obj):Bool:=decide (xs.length=ys.length) && (List.range xs.length).all (fun i=>BG (obj xs i) (obj ys i))
theorem Gz (xs ys:List Obj):BZ xs ys=true↔xs=ys:=by
 unfold BZ;simp only[Bool.and_eq_true,decide_eq_true_eq,List.all_eq_true,List.mem_range];constructor
 ·rintro⟨h1,h2⟩
  apply List.ext_getElem h1
  intro i g1 g2;have:=(DK _ _).1 (h2 i g1)
  rwa [Dm g1,Dm g2] at this
 ·rintro rfl
  exact⟨rfl,fun i _=>(DK _ _).2 rfl⟩
theorem Pp {xs ys:List Obj} (h:xs.length≠ys.length):BZ xs ys=false:=by unfold BZ;simp[h]
theorem QO {xs ys:List Obj} {k:Nat} (hk:k<xs.length) (h:BG (obj xs k) (obj ys k)=false):BZ xs ys=false:=by
 cases e:BZ xs ys
 ·rfl
 ·have:=(Gz _ _).1 e
  subst this;rw[(DK _ _).2 rfl] at h;cases h
theorem Po {xs ys:List Obj} (hl:xs.length=ys.length) (h:∀k,k<xs.length→BG (obj xs k) (obj ys k)=true):BZ xs ys=true:=by
 unfold BZ;simp only[Bool.and_eq_true,decide_eq_true_eq,List.all_eq_true,List.mem_range];exact⟨hl,h⟩
theorem Kh (xs ys:List Obj) (v v':Value) (S S':Nat→Prop) (w:World) (h1:Ai S w v xs) (h2:Ai S' w v' ys):
  Calls Tryz.prog 41 #[v,v'] w fun e w'=>e=.returned (.bool (BZ xs ys))∧Below w.heap.size w w':=by
 obtain⟨a,n,cap,la,ln,lc,HN,rfl,_,hc,_,h4,h5⟩:=h1.open;obtain⟨a',n',cap',la',ln',lc',HN',rfl,_,hc',_,h4',h5'⟩:=h2.open;obtain⟨R,hR,hR1,_⟩:=Av w;have hRb:=hR.below;have hRg:=BI hR;clear h1 h2;by_cases hl:n=n'
 ·subst hl
  have Hall:=zh (Po (xs:=xs) (ys:=ys) (by rw[←HN.out.1,←HN'.out.1]))
  go_enter Tryz.func41, Tryz.ntmps41
  go_wp2_with fail;go_loopw [5] (fun i wr=>∃k:Nat,k≤n∧i=.int .i64 k∧Hid (∀j,j<k→BG (obj xs j) (obj ys j)=true)∧In R wr) (fun i _=>n-(intOf i).toNat)
  case atStart=>exact⟨0,by omega,rfl,fun j hj=>absurd hj (by omega),hR1⟩
  obtain⟨k,hk,rfl,Hs,hRw⟩:=hrel;clear hR1;by_cases hlt:k<n
  ·obtain⟨b,off,rfl,hb,k0,k1,k2,k3⟩:=h4 (by omega)
   obtain⟨b',off',rfl,hb',k0',k1',k2',k3'⟩:=h4' (by omega);have x0:=fun x (hx:In R x)=>k0 k x hlt (hRb x hx)
   have x1:=fun x (hx:In R x)=>k1 k x hlt (hRb x hx)
   have x2:=fun x (hx:In R x)=>k2 k x hlt (hRb x hx)
   have x3:=fun x (hx:In R x)=>k3 k x hlt (hRb x hx)
   have y0:=fun x (hx:In R x)=>k0' k x hlt (hRb x hx)
   have y1:=fun x (hx:In R x)=>k1' k x hlt (hRb x hx)
   have y2:=fun x (hx:In R x)=>k2' k x hlt (hRb x hx)
   have y3:=fun x (hx:In R x)=>k3' k x hlt (hRb x hx)
   have Hso:=zh (fun x (hx:In R x)=>FS (obj xs k) (obj ys k) _ _ S S' x ((h5 k hlt).below (hRb x hx)) ((h5' k hlt).below (hRb x hx)));clear k0 k1 k2 k3 k0' k1' k2' k3' h4 h4' h5 h5';have hi1:=zk k;have hi2:(k:Int)<(n:Int):=by omega
   cases hq:BG (obj xs k) (obj ys k)
   ·have He:=zh (QO (by rw[←HN.out.1];exact hlt) hq)
    rw[hq] at Hso;go_wp2_with fail;refine wp_region_quiet_below (by kernel_rfl) (by kernel_rfl) ?_
    repeat (quiet_step (exact Calls.regrown_of (Hso.out _ (hRg _ _ _ hRw))))
    refine wpQuiet_nil ?_;intro _ hw';obtain⟨⟨dq,osq⟩,hw''⟩:=hw';subst hw'';have hR4:=hRg _ dq osq hRw;go_wp2_with fail;go_ret;exact⟨by rw[He.out];rfl,hRb _ hR4⟩
   ·have He:=zh hq
    rw[hq] at Hso;go_wp2_with fail;refine wp_region_quiet_below (by kernel_rfl) (by kernel_rfl) ?_
    repeat (quiet_step (exact Calls.regrown_of (Hso.out _ (hRg _ _ _ hRw))))
    refine wpQuiet_nil ?_;intro _ hw';obtain⟨⟨dq,osq⟩,hw''⟩:=hw';subst hw'';have hR4:=hRg _ dq osq hRw;generalize Go.Sort.grow (redrawn wr dq) osq=w4 at*;go_wp2_with fail;go_roundw
    case rel=>exact⟨k+1,by omega,by go_num,By Hs.out He.out,hR4⟩
    case measure=>simp[intOf];omega
  ·have HE:=zh (show BZ xs ys=true from Hall.out (fun j hj=>Hs.out j (by have:=HN.out.1;omega)))
   go_wp2_with fail;go_ret;exact⟨by rw[HE.out];rfl,hRb _ hRw⟩
 ·have Hl:=zh (Pp (xs:=xs) (ys:=ys) (by rw[←HN.out.1,←HN'.out.1];exact hl))
  go_enter Tryz.func41, Tryz.ntmps41
  go_wp2_with fail;go_ret;exact⟨by rw[Hl.out];rfl,hRb _ hR1⟩
variable [Ghost]
end Go.Proofs.YtgbnlmplkealdaaGreatDoor
namespace Go.Proofs.YtgbnlmplkealdaaGreatDoor
variable [Ghost]
theorem Ji (x:List UInt8):Op.bytesLess x x=false:=by
 induction x with
 |nil=>rfl
 |cons a x ih=>simp[Op.bytesLess,ih]
theorem Kv (x y z:List UInt8) (h1:Op.bytesLess x y=true) (h2:Op.bytesLess y z=true):Op.bytesLess x z=true:=by
 induction x generalizing y z with
 | nil=>
  cases y with
  |nil=>simp[Op.bytesLess] at h1
  |cons b y=>cases z with
   |nil=>simp[Op.bytesLess] at h2
   |cons c z=>simp[Op.bytesLess]
 | cons a x ih=>
  cases y with
  |nil=>simp[Op.bytesLess] at h1
  | cons b y=>
   cases z with
   |nil=>simp[Op.bytesLess] at h2
   | cons c z=>
    simp only[Op.bytesLess,Bool.or_eq_true,decide_eq_true_eq,Bool.and_eq_true,beq_iff_eq] at*;rcases h1 with h1|⟨rfl,h1⟩
    ·rcases h2 with h2|⟨rfl,h2⟩
     ·left;simp only[UInt8.lt_iff_toNat_lt] at*;omega
     ·exact .inl h1
    ·rcases h2 with h2|⟨rfl,h2⟩
     ·exact .inl h2
     ·exact .inr ⟨rfl,ih y z h1 h2⟩
theorem BY (a:ByteArray):Au a a=false:=Ji _
theorem DM {a b c:ByteArray} (h1:Au a b=true) (h2:Au b c=true):Au a c=true:=Kv _ _ _ h1 h2
structure Fk (l:List Rf) (objs:List Obj):Prop where
 many:l.length≤8
 name:∀i,i<l.length→AR (rf l i).name=0
 up:∀i j,i<j→j<l.length→Au (rf l i).name (rf l j).name=true
 commit:∀i,i<l.length→AC objs (rf l i).id=3
 apart:∀i k,i<l.length→k<l.length→BP (rf l i).name (rf l k).name=false
theorem DH {objs:List Obj} {id:Int}:AH objs id=0↔AC objs id=3:=by
 unfold AH;by_cases h0:AC objs id=0
 ·rw[if_pos h0];constructor
  ·intro e;cases e
  ·intro e;omega
 ·rw[if_neg h0]
  by_cases h3:AC objs id=3
  ·rw[if_pos h3];simp[h3]
  ·rw[if_neg h3];constructor
   ·intro e;cases e
   ·intro e;exact absurd e h3
theorem Ju {l:List Rf} {objs:List Obj} {i:Nat}:BW l objs i=0↔AR (rf l i).name=0∧(0<i→Au (rf l (i-1)).name (rf l i).name=true)∧AC objs (rf l i).id=3:=by
 unfold BW;by_cases h1:AR (rf l i).name=0
 ·rw[if_neg (by simp[h1])]
  by_cases h2:0<i∧Au (rf l (i-1)).name (rf l i).name=false
  ·rw[if_pos h2]
   constructor
   ·intro e;cases e
   ·rintro⟨_,h,_⟩;rw[h h2.1] at h2;cases h2.2
  ·rw[if_neg h2,DH]
   constructor
   ·intro h;refine⟨h1,fun hi=>?_,h⟩
    cases h3:Au (rf l (i-1)).name (rf l i).name
    ·exact absurd ⟨hi,h3⟩ h2
    ·rfl
   ·rintro⟨_,_,h⟩;exact h
 ·rw[if_pos h1]
  constructor
  ·intro e;exact absurd e h1
  ·rintro⟨e,_⟩;exact absurd e h1
theorem EY {l:List Rf} {objs:List Obj} (h:AE l objs=0):Fk l objs:=by
 unfold AE at h;by_cases h8:8<l.length
 ·rw[if_pos h8] at h;cases h
 rw[if_neg h8] at h;by_cases hs:An (BW l objs) l.length=0
 ·rw[if_neg (by simp[hs])] at h
  have hr:=fun i hi=>Ju.1 (Bn hs i hi)
  refine⟨by omega,fun i hi=>(hr i hi).1,?_,fun i hi=>(hr i hi).2.2,fun i k hi hk=>?_⟩
  ·intro i j hij
   induction j with
   |zero=>omega
   |succ j ih=>
    intro hj;have h1:=(hr (j+1) hj).2.1 (by omega);simp only[Nat.add_sub_cancel] at h1;by_cases e:i=j
    ·subst e;exact h1
    ·exact DM (ih (by omega) (by omega)) h1
  ·have h1:=Bn (Bn h i hi) k hk
   unfold Ez at h1;cases e:BP (rf l i).name (rf l k).name
   ·rfl
   ·rw[e] at h1;cases h1
 ·rw[if_pos hs] at h;exact absurd h hs
theorem Mz {l:List Rf} {objs:List Obj} (h:Fk l objs):AE l objs=0:=
 Jw h.many (Bd fun i hi=>Ju.2 ⟨h.name i hi,fun h0=>h.up (i-1) i (by omega) hi,h.commit i hi⟩) (fun i k hi hk=>h.apart i k hi hk)
theorem Bz {l:List Rf} {objs:List Obj}:Ap l objs=0↔Aj objs=0∧Fk l objs:=by
 unfold Ap;by_cases h:Aj objs=0
 ·rw[if_neg (by simp[h])]
  exact⟨fun h1=>⟨h,EY h1⟩,fun h1=>Mz h1.2⟩
 ·rw[if_pos h]
  exact⟨fun h1=>absurd h1 h,fun h1=>absurd h1.1 h⟩
theorem Fk.ne {l:List Rf} {objs:List Obj} (h:Fk l objs) {i j:Nat} (hi:i<l.length) (hj:j<l.length) (hne:i≠j):((rf l i).name.toList==(rf l j).name.toList)=false:=by
 rw[BL,decide_eq_false_iff_not];intro e;rcases Nat.lt_or_ge i j with h1|h1
 ·have:=h.up i j h1 hj;rw[e,BY] at this;cases this
 ·have:=h.up j i (by omega) hi;rw[e,BY] at this;cases this
def without (l:List Rf) (n:Nat):List Rf:=l.take n++l.drop (n+1)
theorem DN {l:List Rf} {n:Nat} (hn:n<l.length):(without l n).length=l.length-1:=by simp[without];omega
theorem DO {l:List Rf} {n i:Nat} (hn:n<l.length):rf (without l n) i=rf l (if i<n then i else i+1):=by
 unfold rf at_ without;simp only[List.getD_eq_getElem?_getD];by_cases h:i<n
 ·rw[List.getElem?_append_left (by simp;omega),if_pos h,List.getElem?_take,if_pos h]
 ·rw[List.getElem?_append_right (by simp;omega),if_neg h,List.getElem?_drop]
  congr 2
  simp;omega
theorem Fk.without {l:List Rf} {objs:List Obj} (h:Fk l objs) {n:Nat} (hn:n<l.length):Fk (without l n) objs:=by
 have hl:=DN hn;refine⟨by have:=h.many;omega,fun i hi=>?_,fun i j hij hj=>?_,fun i hi=>?_,fun i k hi hk=>?_⟩
 ·rw[DO hn];exact h.name _ (by split<;>omega)
 ·rw[DO hn,DO hn];exact h.up _ _ (by split<;>split<;>omega) (by split<;>omega)
 ·rw[DO hn];exact h.commit _ (by split<;>omega)
 ·rw[DO hn,DO hn];exact h.apart _ _ (by split<;>omega) (by split<;>omega)
end Go.Proofs.YtgbnlmplkealdaaGreatDoor
