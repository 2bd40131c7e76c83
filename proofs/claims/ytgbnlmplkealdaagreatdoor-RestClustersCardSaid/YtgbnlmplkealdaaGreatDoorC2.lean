
/- StorA: Stor1, Stor2, Stor3. -/
import Derived.Test.YtgbnlmplkealdaaGreatDoorC1
import Derived.Deep.DeepCutAuto
set_option linter.all false
set_option maxHeartbeats 8000000
set_option maxRecDepth 100000
namespace Go.Proofs.YtgbnlmplkealdaaGreatDoor
open Go.RowKit
variable [Ghost]
def Jb (a b:Int):Int:=if a<b then -1 else if b<a then 1 else 0
theorem MY (i0 i1 id:Int) (a:Option Addr) (n c:Nat) (s:ByteArray) (w:World):
  Calls Tryz.prog 139 #[.agg #[.int .i64 i0,.int .i64 i1,.slice a n c,.string s],.int .i64 id] w fun e w'=>e=.returned (.int .i64 (Jb i0 id))∧Below w.heap.size w w':=by
 have hb0:Below w.heap.size w w:=Below.refl _ _;have hb1:=DF w;unfold Jb;by_cases h1:i0<id
 ·go_enter Tryz.func139, Tryz.ntmps139
  go_wp2;go_ret;exact⟨by simp[h1],hb1 _ _ hb0⟩
 ·by_cases h2:id<i0
  ·go_enter Tryz.func139, Tryz.ntmps139
   go_wp2;go_ret;exact⟨by simp[h1,h2],hb1 _ _ hb0⟩
  ·go_enter Tryz.func139, Tryz.ntmps139
   go_wp2;go_ret;exact⟨by simp[h1,h2],hb1 _ _ hb0⟩
theorem WY {a b:Int} (h:a<b):Jb a b=-1:=by simp[Jb,h]
theorem WX {a b:Int} (h:¬a<b):Jb a b=if b<a then 1 else 0:=by simp[Jb,h]
theorem TT (l:List Obj) (v:Value) (S:Nat→Prop) (id:Int) (w:World) (h:Ai S w v l) (hr:AD l):
  Calls Tryz.prog 138 #[v,.int .i64 id,.func (.func 139) #[] #[]] w fun e w'=>e=.returned (.tuple #[.int .i64 (lo l id),.bool (CO l id)])∧Below w.heap.size w w':=by
 obtain⟨a,n,cap,la,ln,lc,HN,rfl,h1,h2,h3,h4,h5⟩:=h.open;clear h h5;obtain⟨R,hR,hR1,_⟩:=Av w;have hRb:=hR.below;have hRn:=hR.next
 have Hlo:=zh (fun i (hi:i≤n) h1 h2=>XG (l:=l) (id:=id) (i:=i) (by rw[←HN.out.1];exact hi) h1 h2);have Hr:=zh hr;clear hr
 go_enter Tryz.func138, Tryz.ntmps138
 go_wp2_with fail;go_loopg [9,10] n (fun kx s9 s10 wr=>∃i j:Nat,s9=.int .i64 i∧s10=.int .i64 j∧i≤j∧j≤n∧j-i≤kx∧In R wr∧
  Hid ((∀t,t<i→(obj l t).id<id)∧(∀t,j≤t→t<n→id≤(obj l t).id)))
 case atStart=>exact⟨0,n,rfl,rfl,by omega,by omega,by omega,hR1,⟨fun t ht=>absurd ht (by omega),fun t h1 h2=>by omega⟩⟩
 clear hR1;obtain⟨i,j,rfl,rfl,hij,hjn,hg,hRw,I⟩:=hrel;by_cases hlt:i<j
 ·obtain⟨b,off,rfl,hb,k0,k1,k2,k3⟩:=h4 (by omega)
  clear h4;have m1:((i+j) / 2:Nat)<n:=by omega
  have x0:=k0 ((i+j) / 2) wr m1 (hRb _ hRw);have x1:=k1 ((i+j) / 2) wr m1 (hRb _ hRw);have x2:=k2 ((i+j) / 2) wr m1 (hRb _ hRw);have x3:=k3 ((i+j) / 2) wr m1 (hRb _ hRw);clear k0 k1 k2 k3;by_cases hc:(obj l ((i+j) / 2)).id<id
  ·have hcm:=WY hc
   go_wp2_with (go_at_call 139;refine(MY _ _ _ _ _ _ _ _).mono ?_;rintro e w' ⟨rfl,hb2⟩;have hR2:=hRn _ _ hRw hb2);go_roundg (j-((i+j) / 2+1))
   case measure=>omega
   have I2:Hid ((∀t,t<(i+j) / 2+1→(obj l t).id<id)∧(∀t,j≤t→t<n→id≤(obj l t).id)):=⟨fun t ht=>by
    by_cases e:t=(i+j) / 2
    ·subst e;exact hc
    ·have:=Hr.out t ((i+j) / 2) (by omega) (by have:=HN.out.1;omega);omega,I.out.2⟩
   exact⟨(i+j) / 2+1,j,by rw[show((i:Int)+(j:Int)) / 2+1=(((i+j) / 2+1:Nat):Int) by omega],rfl,by omega,hjn,Nat.le_refl _,hR2,I2⟩
  ·have hcm:=WX hc
   have hpos:¬((if id<(obj l ((i+j) / 2)).id then(1:Int) else 0)<0):=by split<;>omega
   rw[←hcm] at hpos;clear hcm;go_wp2_with (go_at_call 139;refine(MY _ _ _ _ _ _ _ _).mono ?_;rintro e w' ⟨rfl,hb2⟩;have hR2:=hRn _ _ hRw hb2);go_roundg ((i+j) / 2-i)
   case measure=>omega
   have I2:Hid ((∀t,t<i→(obj l t).id<id)∧(∀t,(i+j) / 2≤t→t<n→id≤(obj l t).id)):=⟨I.out.1,fun t ht htn=>by
    by_cases e:t=(i+j) / 2
    ·subst e;omega
    ·have:=Hr.out ((i+j) / 2) t (by omega) (by have:=HN.out.1;omega);omega⟩
   exact⟨i,(i+j) / 2,rfl,by rw[show((i:Int)+(j:Int)) / 2=(((i+j) / 2:Nat):Int) by omega],by omega,by omega,Nat.le_refl _,hR2,I2⟩
 ·obtain rfl:j=i:=by omega
  have HL:=zh (Hlo.out j hjn I.out.1 (fun t h1 h2=>I.out.2 t h1 (by have:=HN.out.1;omega)));by_cases hn:j<n
  ·obtain⟨b,off,rfl,hb,k0,k1,k2,k3⟩:=h4 (by omega)
   clear h4;have x0:=k0 j wr hn (hRb _ hRw);have x1:=k1 j wr hn (hRb _ hRw);have x2:=k2 j wr hn (hRb _ hRw);have x3:=k3 j wr hn (hRb _ hRw);clear k0 k1 k2 k3;by_cases he:(obj l j).id=id
   ·have hcm:Jb (obj l j).id id=0:=by rw[he];simp[Jb]
    have He:=zh he;clear he;go_wp2_with (go_at_call 139;refine(MY _ _ _ _ _ _ _ _).mono ?_;rintro e w' ⟨rfl,hb2⟩;have hR2:=hRn _ _ hRw hb2);go_ret2;exact⟨by unfold CO;rw[HL.out,He.out,←HN.out.1];simp[hn],hRb _ hR2⟩
   ·have hcm:¬Jb (obj l j).id id=0:=by unfold Jb;split<;>(try split)<;>omega
    have hcm2:(Jb (obj l j).id id==0)=false:=by simpa using hcm
    have He:=zh he;clear he;go_wp2_with (go_at_call 139;refine(MY _ _ _ _ _ _ _ _).mono ?_;rintro e w' ⟨rfl,hb2⟩;have hR2:=hRn _ _ hRw hb2);go_ret2;exact⟨by unfold CO;rw[HL.out,←HN.out.1];simp[He.out],hRb _ hR2⟩
  ·go_wp2
   go_ret2;exact⟨by unfold CO;rw[HL.out,←HN.out.1];simp[hn],hRb _ hRw⟩
theorem Ye {a b:Int} {x y:Bool} (h:a=b) (hx:x=y):Ending.returned (.tuple #[.int .i64 a,.bool x])=.returned (.tuple #[.int .i64 b,.bool y]):=by rw[h,hx]
theorem LK (l:List Obj) (v:Value) (S:Nat→Prop) (id:Int) (w:World) (h:Ai S w v l) (hr:AD l):
  Calls Tryz.prog 106 #[v,.int .i64 id] w fun e w'=>e=.returned (.tuple #[.int .i64 (lo l id),.bool (CO l id)])∧Below w.heap.size w w':=by
 obtain⟨a,cap,n,rfl⟩:∃a cap n,v=.slice a n cap:=let⟨_,⟨a,cap,hv,_⟩,_⟩:=h;⟨a,cap,_,hv⟩;have hl:=PM l id;generalize hk:lo l id=k at hl⊢;generalize hb:CO l id=b;have Hk:=zh hk;have Hb:=zh hb;clear hk hb
 go_enter Tryz.func106, Tryz.ntmps106
 go_wp2_with (go_at_call 138;refine(TT l _ S id _ h hr).mono ?_;rintro e w' ⟨rfl,hb2⟩;rw[Hk.out,Hb.out]);go_ret2;exact⟨rfl,hb2⟩
theorem NT (l:List Obj) (v:Value) (S:Nat→Prop) (id:Int) (w:World) (h:Ai S w v l) (hr:AD l):
  Calls Tryz.prog 130 #[v,.int .i64 id] w fun e w'=>e=.returned (.int .i64 (AC l id))∧Below w.heap.size w w':=by
 have h':=h;obtain⟨a,n,cap,la,ln,lc,HN,rfl,h1,h2,h3,h4,h5⟩:=h.open;clear h h5;have hl:=PM l id;have Hkd:=zh (hr.kind id);cases hb:CO l id
 ·go_enter Tryz.func130, Tryz.ntmps130
  go_wp2_with (go_at_call 106;refine(LK l _ S id _ h' hr).mono ?_;rintro e w' ⟨rfl,hb2⟩;rw[hb]);go_ret;exact⟨by rw[Hkd.out,hb];rfl,hb2⟩
 ·have hb':lo l id<n:=by rw[HN.out.1];simp[CO] at hb;exact hb.1
  obtain⟨b,off,rfl,hS,k0,k1,k2,k3⟩:=h4 (by omega);clear h4 k0 k2 k3;have hk:=fun x=>k1 (lo l id) x hb'
  clear k1;rw[hb] at Hkd
  go_enter Tryz.func130, Tryz.ntmps130
  go_wp2_with (go_at_call 106;refine(LK l _ S id _ h' hr).mono ?_;rintro e w' ⟨rfl,hb2⟩;rw[hb];have hk1:=hk _ hb2);go_ret;exact⟨by rw[Hkd.out];rfl,hb2⟩
theorem NX (o:Obj) (i kind:Int) (a:Option Addr) (n c k:Nat) (w:World) (hi:i=(k:Int)):
  Calls Tryz.prog 129 #[.agg #[.int .i64 o.id,.int .i64 o.kind,.slice a n c,.string o.text],.int .i64 i,.int .i64 kind] w fun e w'=>e=.returned (.int .i64 (Bk o k kind))∧Below w.heap.size w w':=by
 subst hi;have hb0:Below w.heap.size w w:=Below.refl _ _;have hb1:=DF w;have He:=zh (show Bk o k kind=if kind=0 then 5 else if(if o.kind=3 then(kind=2∧k=0)∨(kind=3∧0<k) else kind=1∨kind=2) then 0 else 7 from rfl);have hk0:((k:Int)==0)=decide (k=0):=by rw[Bool.eq_iff_iff];simp
 by_cases k0:k=0
 ·have hlt:decide (0<k)=false:=by simp[k0]
  have hlt':¬0<k:=by omega
  rw[decide_eq_true k0] at hk0;have K0:=zh k0;clear k0;cases q3:(o.kind==3)<;>cases e0:(kind==0)<;>cases e1:(kind==1)<;>cases e2:(kind==2)<;>cases e3:(kind==3)
  all_goals
   go_enter Tryz.func129, Tryz.ntmps129
   go_wp2
   all_goals go_ret
   all_goals (refine⟨?_,hb1 _ _ hb0⟩;rw[He.out];simp at e0 e1 e2 e3 q3;simp[e0,e1,e2,e3,q3,K0.out])
   all_goals omega
 ·have hlt:decide (0<k)=true:=by simp;omega
  have hlt':0<k:=by omega
  rw[decide_eq_false k0] at hk0;have K0:=zh k0;clear k0;cases q3:(o.kind==3)<;>cases e0:(kind==0)<;>cases e1:(kind==1)<;>cases e2:(kind==2)<;>cases e3:(kind==3)
  all_goals
   go_enter Tryz.func129, Tryz.ntmps129
   go_wp2
   all_goals go_ret
   all_goals (refine⟨?_,hb1 _ _ hb0⟩;rw[He.out];simp at e0 e1 e2 e3 q3;simp[e0,e1,e2,e3,q3,K0.out,hlt'])
   all_goals omega
variable [Ghost]
theorem Ai.take {S:Nat→Prop} {w:World} {a:Option Addr} {n cap:Nat} {l:List Obj} (h:Ai S w (.slice a n cap) l) {i:Nat} (hi:i≤l.length):Ai S w (.slice a i cap) (l.take i):=by
 obtain⟨lvs,⟨a',cap',hv,h1,h2,h3,h4⟩,h5⟩:=h;cases hv;have hl:(l.take i).length=i:=by simp;omega
 refine⟨lvs,⟨a,cap,by rw[hl],by omega,h2,by omega,fun hp=>?_⟩,fun j hj=>?_⟩
 ·rw[hl] at hp
  obtain⟨b,off,ha,hS,hc⟩:=h4 (by omega);refine⟨b,off,ha,⟨hS.1,hS.2.sub (Nat.le_refl _) (by rw[hl];omega)⟩,fun j hj m u hu=>hc j (by omega) m u ?_⟩;have hu':(AG (obj (l.take i) j) (lvs j))[m]?=some u:=hu;rw[FQ (by omega)] at hu';exact hu'
 ·rw[FQ (by omega)];exact h5 j (by omega)
theorem NR (l:List Obj) (v:Value) (S:Nat→Prop) (id:Int) (w:World) (h:Ai S w v l):
  Calls Tryz.prog 110 #[v,.int .i64 id] w fun e w'=>e=.returned (.int .i64 (AC l id))∧w=w':=by
 obtain⟨a,n,cap,la,ln,lc,HN,rfl,h1,h2,h3,h4,h5⟩:=h.open;clear h h5;have Hh:=zh (fun k h1 hk he=>NS (l:=l) (id:=id) (k:=k) h1 (by rw[←HN.out.1];exact hk) he);have Hn:=zh (fun h1=>Jh (l:=l) (id:=id) (by rw[←HN.out.1];exact h1))
 go_enter Tryz.func110, Tryz.ntmps110
 go_wp2;go_loop [5] (fun i=>∃k:Nat,k≤n∧i=.int .i64 k∧Hid (∀j,j<k→(obj l j).id≠id)) (fun i=>n-(intOf i).toNat)
 case atStart=>exact⟨0,by omega,rfl,fun j hj=>absurd hj (by omega)⟩
 obtain⟨k,hk,rfl,Hs⟩:=hrel;by_cases hlt:k<n
 ·obtain⟨b,off,rfl,hb,k0,k1,k2,k3⟩:=h4 (by omega)
  have x0:=k0 k w hlt (Below.refl _ _);have x1:=k1 k w hlt (Below.refl _ _);clear h4 k0 k1 k2 k3;by_cases he:(obj l k).id=id
  ·have hq:((obj l k).id==id)=true:=by simpa using he
   have HK:=zh (Hh.out k Hs.out hlt he);clear he;go_wp2;go_ret;exact⟨Af HK.out.symm,rfl⟩
  ·have hq:((obj l k).id==id)=false:=by simpa using he
   have He:=zh he;clear he;go_wp2;go_round
   case rel=>exact⟨k+1,by omega,by go_num,By Hs.out He.out⟩
   case measure=>simp[intOf];omega
 ·obtain rfl:k=n:=by omega
  have HK:=zh (Hn.out Hs.out);go_wp2;go_ret;exact⟨Af HK.out.symm,rfl⟩
theorem DQ (l:List Obj) (v:Value) (S:Nat→Prop) (id:Int) (w:World) (h:Ai S w v l):
  Calls Tryz.prog 86 #[v,.int .i64 id] w fun e w'=>e=.returned (.int .i64 (Kn l id))∧w=w':=by
 obtain⟨a,n,cap,la,ln,lc,HN,rfl,h1,h2,h3,h4,h5⟩:=h.open;clear h h5;have Hh:=zh (fun k h1 hk he=>Rh (l:=l) (id:=id) (k:=k) h1 (by rw[←HN.out.1];exact hk) he);have Hn:=zh (fun h1=>LJ (l:=l) (id:=id) (by rw[←HN.out.1];exact h1))
 go_enter Tryz.func86, Tryz.ntmps86
 go_wp2;go_loop [5] (fun i=>∃k:Nat,k≤n∧i=.int .i64 k∧Hid (∀j,j<k→(obj l j).id≠id)) (fun i=>n-(intOf i).toNat)
 case atStart=>exact⟨0,by omega,rfl,fun j hj=>absurd hj (by omega)⟩
 obtain⟨k,hk,rfl,Hs⟩:=hrel;by_cases hlt:k<n
 ·obtain⟨b,off,rfl,hb,k0,k1,k2,k3⟩:=h4 (by omega)
  have x0:=k0 k w hlt (Below.refl _ _);clear h4 k0 k1 k2 k3;by_cases he:(obj l k).id=id
  ·have hq:((obj l k).id==id)=true:=by simpa using he
   have HK:=zh (Hh.out k Hs.out hlt he);clear he;go_wp2;go_ret;exact⟨Af HK.out.symm,rfl⟩
  ·have hq:((obj l k).id==id)=false:=by simpa using he
   have He:=zh he;clear he;go_wp2;go_round
   case rel=>exact⟨k+1,by omega,by go_num,By Hs.out He.out⟩
   case measure=>simp[intOf];omega
 ·obtain rfl:k=n:=by omega
  have HK:=zh (Hn.out Hs.out);go_wp2;go_ret;exact⟨Af HK.out.symm,rfl⟩
theorem RU {l:List Obj} {k:Nat} (hc:Aw (obj l k)=0) (hr:0<k→(obj l (k-1)).id<(obj l k).id) {m:Nat} (hm:m<(obj l k).links.length)
  (hs:An (fun j=>Bk (obj l k) j (AC (l.take k) (Ct (obj l k).links j))) m=0) {e:Int} (he:Bk (obj l k) m (AC (l.take k) (Ct (obj l k).links m))=e) (hne:e≠0):Co l k=e:=by
 rw[It hc hr,BX hs (by rw[he];exact hne) hm,he]
theorem EF (l:List Obj) (v:Value) (S:Nat→Prop) (w:World) (h:Ai S w v l):
  Calls Tryz.prog 102 #[v] w fun e w'=>e=.returned (.int .i64 (Aj l))∧Below w.heap.size w w':=by
 have h':=h;obtain⟨a,n,cap,la,ln,lc,HN,rfl,h1,h2,h3,h4,h5⟩:=h.open;clear h;obtain⟨R,hR,hR1,_⟩:=Av w;have hRb:=hR.below;have hRn:=hR.next
 have hRg:=BI hR;by_cases h40:40<n
 ·have He:=zh (IF (l:=l) (by rw[←HN.out.1];exact h40))
  go_enter Tryz.func102, Tryz.ntmps102
  go_wp2_with fail;go_ret;exact⟨Af He.out.symm,hRb _ hR1⟩
 ·have hl40:l.length≤40:=by rw[←HN.out.1];omega
  have Hbad:=zh (fun i e (h0:An (Co l) i=0) (hi:i<n) (he:Co l i=e) (hne:e≠0)=>IZ hl40 h0 (by rw[←HN.out.1];exact hi) he hne);have Hok:=zh (fun(h0:An (Co l) n=0)=>JW hl40 (by rw[←HN.out.1];exact h0));clear hl40
  go_enter Tryz.func102, Tryz.ntmps102
  go_wp2_with fail;go_loopw [14] (fun i wr=>∃k:Nat,k≤n∧i=.int .i64 k∧Hid (An (Co l) k=0)∧In R wr) (fun i _=>n-(intOf i).toNat)
  case atStart=>exact⟨0,by omega,rfl,rfl,hR1⟩
  obtain⟨k,hk,rfl,Hs,hRw⟩:=hrel;clear hR1;obtain⟨wo,rfl⟩:∃wo:World,wo=wr:=⟨_,rfl⟩;by_cases hlt:k<n
  ·obtain⟨b,off,rfl,hb,k0,k1,k2,k3⟩:=h4 (by omega)
   have x0:=k0 k wo hlt (hRb _ hRw);have x1:=k1 k wo hlt (hRb _ hRw);have x2:=k2 k wo hlt (hRb _ hRw);have x3:=k3 k wo hlt (hRb _ hRw);have ho:=h5 k hlt;have Hrt:=zh (MI (l:=l) (n:=k) (by rw[←HN.out.1];omega) Hs.out);have Hk0:=zh k0;have Hln:=zh (HN.out.2 k);clear h4 h5 k0 k1 k2 k3;generalize la k=a2 at*;generalize ln k=n2 at*;generalize lc k=c2 at*;obtain⟨Q,hQ,hQ1,y0,y1,y2,y3⟩:=Ev wo (.int .i64 (obj l k).id) (.int .i64 (obj l k).kind) (.slice a2 n2 c2) (.string (obj l k).text) 96;have hQb:∀x,In Q x→Below w.heap.size w x:=fun x hx=>Al (hRb _ hRw) (hQ.below x hx)
   have hQn:=hQ.next
   by_cases hz:Aw (obj l k)=0
   ·have hz':(Aw (obj l k) !=0)=false:=by simpa using hz
    have Hz:=zh hz;clear hz;have HT:=zh (fun x (hx:In Q x)=>(h'.take (i:=k) (by rw[←HN.out.1];omega)).below (hQb x hx));obtain⟨a3,n3,c3,HN3,hv3,g1,g2,g3,g4⟩:=ho.1.open;cases hv3;have HL:=zh HN3.out;clear HN3 Hln;go_wp2_with (go_at_call 94;refine(LO (obj l k) _ S _ (ho.below (hQb _ hQ1))).mono ?_;rintro e w2 ⟨rfl,hb2⟩;have hQ2:=hQn _ _ hQ1 hb2;clear x0 x1 x2 x3);clear hb2 hz';by_cases hst:0<k∧(obj l k).id≤(obj l (k-1)).id
    ·obtain⟨hk0,hle⟩:=hst
     have hkm:∀x,In Q x→x.cell? ⟨b,off+(k-1)*4,none⟩=some (.int .i64 (obj l (k-1)).id):=fun x hx=>Hk0.out (k-1) x (by omega) (hQb x hx)
     have hi3:(0:Int)≤(k:Int)-1:=by omega
     have hi4:(1:Int)≤(k:Int):=by omega
     have hi5:(k:Int)-1<(n:Int):=by omega
     have hi6:(0:Int)<(k:Int):=by omega
     have hwr2:=Be (n:=(k:Int)-1) (by omega);have htn:((k:Int)-1).toNat=k-1:=by omega
     have hQd:=hQ.drewN;go_quiet (fail);go_wp2;go_ret;exact⟨Af (Hbad.out k _ Hs.out hlt (Le Hz.out hk0 hle) (by decide)).symm,hQb _ (hQd _ _ hQ2)⟩
    have Hst:=zh (fun(h0:0<k)=>show(obj l (k-1)).id<(obj l k).id from Int.not_le.1 (fun hle=>hst ⟨h0,hle⟩));clear hst;rcases Classical.em (0<k) with hk0|hk0
    case' inl=>
     have hkm:∀x,In Q x→x.cell? ⟨b,off+(k-1)*4,none⟩=some (.int .i64 (obj l (k-1)).id):=fun x hx=>Hk0.out (k-1) x (by omega) (hQb x hx)
     have hi3:(0:Int)≤(k:Int)-1:=by omega
     have hi4:(1:Int)≤(k:Int):=by omega
     have hi5:(k:Int)-1<(n:Int):=by omega
     have hi6:(0:Int)<(k:Int):=by omega
     have hwr2:=Be (n:=(k:Int)-1) (by omega);have htn:((k:Int)-1).toNat=k-1:=by omega
     have hlts:=Hst.out hk0;have hQd:=hQ.drewN;go_quiet (fail);clear hkm hi3 hi4 hi5 hi6 hwr2 htn
    case' inr=>
     have hd:decide ((0:Int)<(k:Int))=false:=by simp;omega
     have hQd:=hQ.drewN;go_quiet (fail)
    all_goals
     have hQ3:=hQd _ nq hQ2;clear hQ1 hQ2 hQd;generalize w2.drewN nq=w3 at*;go_wp2_with fail
     (try clear hd)
     (try clear hlts)
     have hQg:=BI hQ;go_loopw [40] (fun i wr=>∃m:Nat,m≤n2∧i=.int .i64 m∧Hid (An (fun j=>Bk (obj l k) j (AC (l.take k) (Ct (obj l k).links j))) m=0)∧In Q wr) (fun i _=>n2-(intOf i).toNat)
     case atStart=>exact⟨0,by omega,rfl,rfl,hQ3⟩
     obtain⟨m,hm,rfl,Hm,hQw⟩:=hrel;clear hQ3;by_cases hmlt:m<n2
     ·obtain⟨b',off',rfl,hb',hcell⟩:=g4 (by omega)
      have hcm:∀x,In Q x→x.cell? ⟨b',off'+m,none⟩=some (.int .i64 (Ct (obj l k).links m)):=fun x hx=>hcell m x hmlt (hQb x hx)
      clear hcell g4;have hi1:=zk k;have hi2:(k:Int)≤(n:Int):=by omega
      have hi3:(k:Int)≤(cap:Int):=by omega
      by_cases hle:Bk (obj l k) m (AC (l.take k) (Ct (obj l k).links m))=0
      ·have hq:(Bk (obj l k) m (AC (l.take k) (Ct (obj l k).links m)) !=0)=false:=by simpa using hle
       have Hle:=zh hle;clear hle;go_wp2_with fail;refine wp_region_quiet_below (by kernel_rfl) (by kernel_rfl) ?_
       repeat (quiet_step (first|exact Calls.regrown_of (NT (l.take k) _ S _ _ (HT.out _ (hQg _ _ _ hQw)) Hrt.out)|exact Calls.regrown_of (NX (obj l k) _ _ _ _ _ m _ rfl)))
       refine wpQuiet_nil ?_;intro _ hw';obtain⟨⟨dq,osq⟩,hw''⟩:=hw';subst hw'';have hQ4:=hQg _ dq osq hQw;generalize Go.Sort.grow (redrawn wr dq) osq=w4 at*;go_wp2;go_roundw
       case rel=>exact⟨m+1,by omega,by go_num,Ay Hm.out Hle.out,hQ4⟩
       case measure=>simp[intOf];omega
      ·have hq:(Bk (obj l k) m (AC (l.take k) (Ct (obj l k).links m)) !=0)=true:=by simpa using hle
       have Hle:=zh (RU Hz.out Hst.out (by rw[←HL.out];exact hmlt) Hm.out rfl hle);have Hne:=zh hle;clear hle;go_wp2_with fail;refine wp_region_quiet_below (by kernel_rfl) (by kernel_rfl) ?_
       repeat (quiet_step (first|exact Calls.regrown_of (NT (l.take k) _ S _ _ (HT.out _ (hQg _ _ _ hQw)) Hrt.out)|exact Calls.regrown_of (NX (obj l k) _ _ _ _ _ m _ rfl)))
       refine wpQuiet_nil ?_;intro _ hw';obtain⟨⟨dq,osq⟩,hw''⟩:=hw';subst hw'';have hQ4:=hQg _ dq osq hQw;generalize Go.Sort.grow (redrawn wr dq) osq=w4 at*;go_wp2;go_ret;exact⟨Af (Hbad.out k _ Hs.out hlt Hle.out Hne.out).symm,hQb _ hQ4⟩
     ·obtain rfl:m=n2:=by omega
      have Hm2:=zh (Ay Hs.out ((It Hz.out Hst.out).trans (by rw[←HL.out];exact Hm.out)));go_wp2;go_roundw
      case rel=>exact⟨k+1,by omega,by go_num,Hm2.out,hR.next _ _ hRw (hQ.below _ hQw)⟩
      case measure=>simp[intOf];omega
   ·have hz':(Aw (obj l k) !=0)=true:=by simpa using hz
    have Hz:=zh hz;clear hz;go_wp2_with (go_at_call 94;refine(LO (obj l k) _ S _ (ho.below (hQb _ hQ1))).mono ?_;rintro e w2 ⟨rfl,hb2⟩;have hQ2:=hQn _ _ hQ1 hb2;clear x0 x1 x2 x3);go_ret;exact⟨Af (Hbad.out k _ Hs.out hlt (Of Hz.out) Hz.out).symm,hQb _ hQ2⟩
  ·obtain rfl:k=n:=by omega
   have He:=zh (Hok.out Hs.out);go_wp2_with fail;go_ret;exact⟨Af He.out.symm,hRb _ hRw⟩
variable [Ghost]
theorem Tv {o:Obj} (h:Aw o=0) (hn:0<o.links.length):o.kind=2∨o.kind=3:=by
 obtain⟨h1,h2,h3,h4,h5⟩:=Fb h;unfold Cv at h5;by_cases h0:An (Cl o) o.links.length=0
 ·rw[h0,if_neg (by simp)] at h5
  cases hf:Ij o
  ·have hne:o.kind≠1:=fun e=>by simp[Ij,e,hn] at hf
   omega
  ·rw[hf,if_pos rfl] at h5;exact absurd h5 (by decide)
 ·rw[if_pos h0] at h5;exact absurd h5 h0
theorem Pe (o:Obj) (m:Nat) (kd:Int) (ho:o.kind=2∨o.kind=3) (hk:kd=1∨kd=2∨kd=3):
  decide (Bk o m kd≠0)=(((o.kind==2) && (kd==3))||((o.kind==3) && ((m:Int)==0) && (kd !=2))||((o.kind==3) && decide (0<m) && (kd !=3))):=by
 have hm:((m:Int)==0)=decide (m=0):=by rw[Bool.eq_iff_iff];simp
 unfold Bk;rw[hm];by_cases h0:m=0<;>rcases ho with ho|ho<;>rcases hk with rfl|rfl|rfl<;>simp[ho,h0]<;>omega
theorem RT {o:Obj} {m:Nat} {kd:Int} (hk:kd≠0) (h:Bk o m kd≠0):Bk o m kd=7:=by
 unfold Bk at h⊢;rw[if_neg hk] at h⊢;by_cases hc:(if o.kind=3 then(kd=2∧m=0)∨(kd=3∧0<m) else kd=1∨kd=2)
 ·rw[if_pos hc] at h;exact absurd rfl h
 ·rw[if_neg hc]
theorem Eu (l:List Obj) (v:Value) (S:Nat→Prop) (w:World) (h:Ai S w v l):
    Calls Tryz.prog 78 #[v] w fun e w'=>e=.returned (.int .i64 (Aj l))∧Below w.heap.size w w':=by
  have h':=h;obtain⟨a,n,cap,la,ln,lc,HN,rfl,h1,h2,h3,h4,h5⟩:=h.open;clear h;obtain⟨R,hR,hR1,_⟩:=Av w;have hRb:=hR.below;have hRn:=hR.next
  have hRg:=BI hR;by_cases h40:40<n
  · have He:=zh (IF (l:=l) (by rw[←HN.out.1];exact h40))
    go_enter Tryz.func78, Tryz.ntmps78
    go_wp2_with fail;go_ret;exact⟨Af He.out.symm,hRb _ hR1⟩
  · have hl40:l.length≤40:=by rw[←HN.out.1];omega
    have Hbad:=zh (fun i e (h0:An (Co l) i=0) (hi:i<n) (he:Co l i=e) (hne:e≠0)=>IZ hl40 h0 (by rw[←HN.out.1];exact hi) he hne);have Hok:=zh (fun(h0:An (Co l) n=0)=>JW hl40 (by rw[←HN.out.1];exact h0));clear hl40
    go_enter Tryz.func78, Tryz.ntmps78
    go_wp2_with fail;go_loopw [3] (fun i wr=>∃k:Nat,k≤n∧i=.int .i64 k∧Hid (An (Co l) k=0)∧In R wr) (fun i _=>n-(intOf i).toNat)
    case atStart=>exact⟨0,by omega,rfl,rfl,hR1⟩
    obtain⟨k,hk,rfl,Hs,hRw⟩:=hrel;clear hR1;obtain⟨wo,rfl⟩:∃wo:World,wo=wr:=⟨_,rfl⟩;by_cases hlt:k<n
    · obtain ⟨b,off,rfl,hb,k0,k1,k2,k3⟩:=h4 (by omega)
      have x0:=k0 k wo hlt (hRb _ hRw);have x1:=k1 k wo hlt (hRb _ hRw);have x2:=k2 k wo hlt (hRb _ hRw);have x3:=k3 k wo hlt (hRb _ hRw);have ho:=h5 k hlt;have Hk4:=zh (VP (l:=l) (n:=k) (by rw[←HN.out.1];omega) Hs.out);have Hk0:=zh k0;have Hln:=zh (HN.out.2 k);clear h4 h5 k0 k1 k2 k3;generalize la k=a2 at*;generalize ln k=n2 at*;generalize lc k=c2 at*;obtain⟨Q,hQ,hQ1,y0,y1,y2,y3⟩:=Ev wo (.int .i64 (obj l k).id) (.int .i64 (obj l k).kind) (.slice a2 n2 c2) (.string (obj l k).text) 96;have hQb:∀x,In Q x→Below w.heap.size w x:=fun x hx=>Al (hRb _ hRw) (hQ.below x hx)
      have hQn:=hQ.next
      by_cases hz:Aw (obj l k)=0
      · have hz':(Aw (obj l k) !=0)=false:=by simpa using hz
        have Hz:=zh hz;clear hz;have HT:=zh (fun x (hx:In Q x)=>(h'.take (i:=k) (by rw[←HN.out.1];omega)).below (hQb x hx));obtain⟨a3,n3,c3,HN3,hv3,g1,g2,g3,g4⟩:=ho.1.open;cases hv3;have HL:=zh HN3.out;clear HN3 Hln;go_wp2_with (go_at_call 80;refine(Ed (obj l k) _ S _ (ho.below (hQb _ hQ1))).mono ?_;rintro e w2 ⟨rfl,hb2⟩;have hQ2:=hQn _ _ hQ1 hb2;clear x0 x1 x2 x3);clear hb2 hz';by_cases hst:0<k∧(obj l k).id≤(obj l (k-1)).id
        · obtain⟨hk0,hle⟩:=hst
          have hkm:∀x,In Q x→x.cell? ⟨b,off+(k-1)*4,none⟩=some (.int .i64 (obj l (k-1)).id):=fun x hx=>Hk0.out (k-1) x (by omega) (hQb x hx)
          have hi3:(0:Int)≤(k:Int)-1:=by omega
          have hi4:(1:Int)≤(k:Int):=by omega
          have hi5:(k:Int)-1<(n:Int):=by omega
          have hi6:(0:Int)<(k:Int):=by omega
          have hwr2:=Be (n:=(k:Int)-1) (by omega);have htn:((k:Int)-1).toNat=k-1:=by omega
          have hQd:=hQ.drewN;go_quiet (fail);go_wp2;go_ret;exact⟨Af (Hbad.out k _ Hs.out hlt (Le Hz.out hk0 hle) (by decide)).symm,hQb _ (hQd _ _ hQ2)⟩
        have Hst:=zh (fun(h0:0<k)=>show(obj l (k-1)).id<(obj l k).id from Int.not_le.1 (fun hle=>hst ⟨h0,hle⟩));clear hst;have hQd:=hQ.drewN;go_cut [38] (fun s38 wx=>s38=.bool false∧In Q wx)
        case first=>
          by_cases hk0:0<k
          · have hkm:∀x,In Q x→x.cell? ⟨b,off+(k-1)*4,none⟩=some (.int .i64 (obj l (k-1)).id):=fun x hx=>Hk0.out (k-1) x (by omega) (hQb x hx)
            have hi3:(0:Int)≤(k:Int)-1:=by omega
            have hi4:(1:Int)≤(k:Int):=by omega
            have hi5:(k:Int)-1<(n:Int):=by omega
            have hi6:(0:Int)<(k:Int):=by omega
            have hwr2:=Be (n:=(k:Int)-1) (by omega);have htn:((k:Int)-1).toNat=k-1:=by omega
            have hlts:=Hst.out hk0;have hlts':decide ((obj l k).id≤(obj l (k-1)).id)=false:=by simp;exact hlts
            go_quiet (fail);go_wp2_with fail;go_meet;exact⟨rfl,hQd _ _ hQ2⟩
          · have hd:decide ((0:Int)<(k:Int))=false:=by simp;omega
            go_quiet (fail);go_wp2_with fail;go_meet;exact⟨rfl,hQd _ _ hQ2⟩
        obtain⟨rfl,hQ3⟩:=hcut;clear hQ1 hQ2;go_wp2_with fail;go_loopw [6] (fun i wr=>∃m:Nat,m≤n2∧i=.int .i64 m∧Hid (An (fun j=>Bk (obj l k) j (AC (l.take k) (Ct (obj l k).links j))) m=0)∧In Q wr) (fun i _=>n2-(intOf i).toNat)
        case atStart=>exact⟨0,by omega,rfl,rfl,hQ3⟩
        obtain⟨m,hm,rfl,Hm,hQw⟩:=hrel;clear hQ3;by_cases hmlt:m<n2
        · obtain⟨b',off',rfl,hb',hcell⟩:=g4 (by omega)
          have hcm:∀x,In Q x→x.cell? ⟨b',off'+m,none⟩=some (.int .i64 (Ct (obj l k).links m)):=fun x hx=>hcell m x hmlt (hQb x hx)
          clear hcell g4;have hi1:=zk k;have hi2:(k:Int)≤(n:Int):=by omega
          have hi3:(k:Int)≤(cap:Int):=by omega
          have hi4:=zk m;have hi5:(m:Int)<(n2:Int):=by omega
          have HKd:=zh (fun x (hx:In Q x)=>NR (l.take k) _ S (Ct (obj l k).links m) x (HT.out x hx));have Hkd4:=zh (Hk4.out (Ct (obj l k).links m));have Hok2:=zh (Tv Hz.out (by rw[←HL.out];omega));have Hnx:=zh (fun(h0:Bk (obj l k) m (AC (l.take k) (Ct (obj l k).links m))=0)=>Ay Hm.out h0);have Her:=zh (fun e (h0:Bk (obj l k) m (AC (l.take k) (Ct (obj l k).links m))=e) (hne:e≠0)=>Hbad.out k _ Hs.out hlt (RU Hz.out Hst.out (by rw[←HL.out];exact hmlt) Hm.out h0 hne) hne);generalize AC (l.take k) (Ct (obj l k).links m)=kd at*;go_wp2_with fail;go_quiet ((go_at_call 110;exact BV (HKd.out _ (hQd _ _ hQw))));have hQ4:=hQd _ nq hQw;clear hi1 hi2 hi3 hi4 hi5 hcm HKd;generalize wr.drewN nq=w4 at*;cases hz0:(kd==0)
          · have hkd:kd≠0:=by simpa using hz0
            go_upto_region 18 with fail;go_cut [89] (fun s89 wx=>s89=.bool (decide (Bk (obj l k) m kd≠0))∧wx=w4)
            case first=>
              have Hv:=zh (Pe (obj l k) m kd Hok2.out (by have:=Hkd4.out;omega));have hy1:=y1 _ hQ4;cases hm0:((m:Int)==0)<;>cases hm1:decide (0<m)<;>cases hq2:((obj l k).kind==2)<;>cases hq3:((obj l k).kind==3)<;>cases hk3:(kd==3)<;>cases hk2:(kd==2)
              all_goals
                have hk3':(kd !=3)=!(kd==3):=rfl;have hk2':(kd !=2)=!(kd==2):=rfl;rw[hk3] at hk3';rw[hk2] at hk2';simp only[Bool.not_true,Bool.not_false] at hk3' hk2';go_wp2_with fail;go_meet;exact⟨by rw[Hv.out,hm0,hm1,hq2,hq3,hk3,hk3',hk2'];rfl,rfl⟩
            obtain⟨rfl,rfl⟩:=hcut;by_cases hle:Bk (obj l k) m kd=0
            · have hd:decide (Bk (obj l k) m kd≠0)=false:=by simp[hle]
              have HE:=zh (Hnx.out hle);clear hle;rw[hd];go_wp2;go_roundw
              case rel=>exact⟨m+1,by omega,by go_num,HE.out,hQ4⟩
              case measure=>simp[intOf];omega
            · have hd:decide (Bk (obj l k) m kd≠0)=true:=by simp[hle]
              have HE:=zh (Her.out 7 (RT hkd hle) (by decide));clear hle;rw[hd];go_wp2;go_ret;exact⟨Af HE.out.symm,hQb _ hQ4⟩
          · have hkd:kd=0:=by simpa using hz0
            have Hle:=zh (Her.out 5 (by rw[hkd];rfl) (by decide));clear hkd;go_wp2;go_ret;exact⟨Af Hle.out.symm,hQb _ hQ4⟩
        · obtain rfl:m=n2:=by omega
          have Hm2:=zh (Ay Hs.out ((It Hz.out Hst.out).trans (by rw[←HL.out];exact Hm.out)));go_wp2;go_roundw
          case rel=>exact⟨k+1,by omega,by go_num,Hm2.out,hR.next _ _ hRw (hQ.below _ hQw)⟩
          case measure=>simp[intOf];omega
      · have hz':(Aw (obj l k) !=0)=true:=by simpa using hz
        have Hz:=zh hz;clear hz;go_wp2_with (go_at_call 80;refine(Ed (obj l k) _ S _ (ho.below (hQb _ hQ1))).mono ?_;rintro e w2 ⟨rfl,hb2⟩;have hQ2:=hQn _ _ hQ1 hb2;clear x0 x1 x2 x3);go_ret;exact⟨Af (Hbad.out k _ Hs.out hlt (Of Hz.out) Hz.out).symm,hQb _ hQ2⟩
    · obtain rfl:k=n:=by omega
      have He:=zh (Hok.out Hs.out);go_wp2_with fail;go_ret;exact⟨Af He.out.symm,hRb _ hRw⟩
end Go.Proofs.YtgbnlmplkealdaaGreatDoor
