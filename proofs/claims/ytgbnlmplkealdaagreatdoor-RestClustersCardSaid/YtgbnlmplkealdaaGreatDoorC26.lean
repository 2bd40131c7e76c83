
/- NeedA: NeedP, NeedA, NeedB, NeedC. -/
import Derived.Shelf.Slices.CompactI
import Derived.Lib.RowBridge
import Derived.Shelf.Sort.Plain
import Derived.Test.YtgbnlmplkealdaaGreatDoorC25
import Derived.Test.YtgbnlmplkealdaaGreatDoorC22
set_option linter.all false
set_option maxHeartbeats 8000000
set_option maxRecDepth 100000
namespace Go.Proofs.YtgbnlmplkealdaaGreatDoor
open Go.RowKit
variable [Ghost]
variable [Ghost]
def LC (S:Nat→Prop) (B J:Nat) (w:World) (xs:List Int):Prop:=
 ∃v,w.ownsRow B 3 1 v xs.length (xs.map (Value.int .i64))∧v.ownBlock≠some J∧(∀b,S b→v.ownBlock≠some b)∧w.heap[J]?=some (.cells #[v] 94 (0,0))
theorem LC.below {S:Nat→Prop} {B J:Nat} {w w':World} {xs:List Int} (h:LC S B J w xs) (hb:Below w.heap.size w w'):LC S B J w' xs:=by
 obtain⟨v,h1,h2,h3,h4⟩:=h;exact⟨v,DR h1 hb,h2,h3,(hb.block _ (lt_of_block h4)).trans h4⟩
variable [Ghost]
theorem LC.re {S S':Nat→Prop} {B J:Nat} {w:World} {xs:List Int} (h:LC S B J w xs) (hS:∀b,S' b→b<B∨w.heap.size≤b):LC S' B J w xs:=by
 obtain⟨v,h1,h2,h3,h4⟩:=h;refine⟨v,h1,h2,fun b hb e=>?_,h4⟩;have:=h1.lt b e;rcases hS b hb with h|h<;>omega
variable [Ghost]
variable [Ghost]
theorem Ai.shape3 {S:Nat→Prop} {w:World} {v:Value} {l:List Obj} (h:Ai S w v l):∃a n c,v=.slice a n c:=let⟨a,c,e⟩:=h.vshape;⟨a,_,c,e⟩
theorem AJ.shape3 {S:Nat→Prop} {w:World} {v:Value} {l:List Mv} (h:AJ S w v l):∃a n c,v=.slice a n c:=let⟨p,e⟩:=h.shape;⟨p.1,_,p.2,e⟩
variable [Ghost]
def n5:ByteArray:=⟨#[110,111,32,53]⟩
variable [Ghost]
theorem WK (p:World→Prop) {x:World} (h:p x):∃C:World→Prop,In C x∧(∀z,In C z→p z)∧(∀z,p z→In C z):=⟨p,h,fun _ h=>h,fun _ h=>h⟩
theorem Tryz.infoStr:(Tryz.prog.info? 9).map (fun i=>(i.zero,i.size,i.bytes))=some (some (.string ⟨#[]⟩),1,16):=by kernel_rfl
theorem XT {x:World} {B N:Nat} {v:Value} {l:List ByteArray} (h:x.ownsRow B 9 1 v N (l.map Value.string)) (hN:N=l.length) (hi:∀s∈l,s.size≤140737488351232) (hb:N*16≤140737488351232):De (fun b=>B≤b) x v l:=by
 subst hN;refine⟨Iu h (fun g hg=>(h.lt g hg).1) (by omega) (fun i hn j u hu=>?_),hi⟩
 match j,hu with
 |0,hu=>
  simp at hu;subst hu;simp[Oz hn,hn]
theorem De.bytes {S:Nat→Prop} {w:World} {v:Value} {l:List ByteArray} (h:De S w v l):l.length*16≤140737488351232:=by obtain⟨⟨_,_,_,_,_,h,_⟩,_⟩:=h;exact h
theorem UR {n:Int} (h:CP n):(Bl n).size=1:=by
 obtain⟨h0,h1⟩:=h;have:n=0∨n=1∨n=2∨n=3∨n=4∨n=5∨n=6∨n=7∨n=8∨n=9:=by omega
 rcases this with rfl|rfl|rfl|rfl|rfl|rfl|rfl|rfl|rfl|rfl<;>decide+kernel
theorem UI {r:Am} {p:BM} (h:Bv r p≠0):(CC r p).size=4:=by
 unfold CC;rw[if_pos h];rw[ByteArray.size_append,UR (Ig r p)];rfl
theorem Yu {r:Am} {p:BM} (h:Bv r p=0):4<(CC r p).size∧((CC r p).extract 0 4).toList=[121,101,115,32]:=by
 unfold CC;rw[if_neg (by simpa using h)];generalize Bl r.gen=ds;generalize Fh p.updates=tx;have hs:(OP++ds++YA++tx).size=4+ds.size+1+tx.size:=by
  rw[ByteArray.size_append,ByteArray.size_append,ByteArray.size_append];rfl
 refine⟨by omega,?_⟩;have e:(OP++ds++YA++tx).extract 0 4=OP:=by
  apply ByteArray.ext
  rw[ByteArray.data_extract,ByteArray.data_append,ByteArray.data_append,ByteArray.data_append];apply Array.toList_inj.1
  rw[Array.toList_extract,Array.toList_append,Array.toList_append,Array.toList_append];rfl
 rw[e];decide+kernel
variable [Ghost]
def DJ (r:Am):Am:=⟨r.store,r.refs,r.gen,0,CU⟩
def IK (r:Am) (ph:Int):Int:=if Ak r≠0 then Ak r else if r.phase≠ph then 4 else 0
def Cn (r:Am) (p:BM):Am:=⟨r.store,r.refs,r.gen,1,p⟩
def Kc (r:Am) (p:BM):Int:=if IK r 0≠0 then IK r 0 else As p
def Jt (r:Am) (p:BM):Am:=if Kc r p=0 then Cn r p else BE
def Ch (r:Am):Am:=⟨r.store,r.refs,r.gen,2,r.pend⟩
def Ps (r:Am):Am:=if IK r 1=0 then Ch r else BE
def MW (r:Am):ByteArray:=if IK r 1=0 then CC r r.pend else ByteArray.empty
def Pz (r:Am):Int:=if Bv r r.pend≠0 then Bv r r.pend else if r.gen=999 then 2 else 0
def DZ (r:Am) (p:BM):Am:=⟨Fp r p,ES r p,r.gen+1,0,CU⟩
def Tg (r:Am) (commit:Bool):Int:=if commit=true then Pz r else 0
def Vd (r:Am) (commit:Bool):Am:=if commit=true then DZ r r.pend else DJ r
def KR (r:Am) (commit:Bool):Int:=if IK r 2≠0 then IK r 2 else Tg r commit
def MS (r:Am) (commit:Bool):Am:=if KR r commit=0 then Vd r commit else BE
def NA (r:Am):Am:=if Ak r=0 then DJ r else BE
theorem KW {r:Am} {ph:Int} (h:IK r ph=0):Ak r=0∧r.phase=ph:=by
 unfold IK at h;by_cases h1:Ak r=0
 ·rw[if_neg (by simpa using h1)] at h
  by_cases h2:r.phase=ph
  ·exact⟨h1,h2⟩
  ·rw[if_pos h2] at h;cases h
 ·rw[if_pos h1] at h;exact absurd h h1
theorem NM {r:Am} {ph:Int} (h1:Ak r=0) (h2:r.phase=ph):IK r ph=0:=by
 unfold IK;rw[if_neg (by simpa using h1),if_neg (by simpa using h2)]
theorem YX {r:Am} {ph:Int} (h1:Ak r=0) (h2:r.phase≠ph):IK r ph=4:=by
 unfold IK;rw[if_neg (by simpa using h1),if_pos h2]
theorem PJ {r:Am} {ph:Int} (h1:Ak r≠0):IK r ph=Ak r:=by unfold IK;rw[if_pos h1]
structure Cx (r:Am):Prop where
 refs:Ap r.refs r.store=0
 gen:0≤r.gen∧r.gen≤999
 phase:0≤r.phase∧r.phase≤2
 held:r.phase≠0→As r.pend=0
 none:r.phase=0→r.pend=CU
theorem Bm {r:Am}:Ak r=0↔Cx r:=by
 unfold Ak;constructor
 ·intro h
  split at h
  ·rename_i h1;exact absurd h h1
  ·rename_i h1
   split at h
   ·cases h
   ·rename_i h2
    split at h
    ·cases h
    ·rename_i h3
     refine⟨by simpa using h1,BH (by simpa using h2),BH (by simpa using h3),fun hp=>?_,fun hp=>?_⟩
     ·rw[if_pos hp] at h;exact h
     ·rw[if_neg (by simpa using hp)] at h
      split at h
      ·rename_i h4
       rw[←Lp] at h4;exact(Ep _ _).1 h4
      ·cases h
 ·intro h
  rw[if_neg (by simpa using h.refs),if_neg (by simp[within,h.gen.1,h.gen.2]),if_neg (by simp[within,h.phase.1,h.phase.2])];by_cases hp:r.phase=0
  ·rw[if_neg (by simpa using hp),h.none hp,if_pos (by simp[BR,CU])]
  ·rw[if_pos hp];exact h.held hp
theorem Tl {r:Am} (h:Cx r):Cx (DJ r):=⟨h.refs,h.gen,⟨by simp[DJ],by simp[DJ]⟩,fun hp=>absurd rfl hp,fun _=>rfl⟩
theorem NK {r:Am} {p:BM} (h:Cx r) (hp:As p=0):Cx (Cn r p):=⟨h.refs,h.gen,⟨by simp[Cn],by simp[Cn]⟩,fun _=>hp,fun h0=>by simp[Cn] at h0⟩
theorem ML {r:Am} (h:Cx r) (hp:As r.pend=0):Cx (Ch r):=⟨h.refs,h.gen,⟨by simp[Ch],by simp[Ch]⟩,fun _=>hp,fun h0=>by simp[Ch] at h0⟩
theorem ND {r:Am} {p:BM} (h:Cx r) (ht:Bv r p=0) (hg:r.gen≠999):Cx (DZ r p):=by
 have hT:=Ub ht;refine⟨?_,by have:=h.gen;simp only[DZ];omega,⟨by simp[DZ],by simp[DZ]⟩,fun hp=>absurd rfl hp,fun _=>rfl⟩;show Ap (ES r p) (Fp r p)=0
 unfold Ap;rw[if_neg (by simpa using hT.store)];exact hT.right
theorem Vj {r:Am} (h:Cx r) (hp:r.phase=0):DJ r=r:=by
 have:=h.none hp;unfold DJ;rw[←this,←hp]
theorem PS {r:Am} {p:BM} (h:Kc r p=0):Cx r∧r.phase=0∧As p=0∧Jt r p=Cn r p:=by
 have hR:Jt r p=Cn r p:=by unfold Jt;rw[if_pos h]
 unfold Kc at h;by_cases h1:IK r 0=0
 ·rw[if_neg (by simpa using h1)] at h
  exact⟨Bm.1 (KW h1).1,(KW h1).2,h,hR⟩
 ·rw[if_pos h1] at h;exact absurd h h1
structure ZI (r:Am) (p:BM):Prop where
 a:Jt r p=Cn r p
 vot:IK (Cn r p) 1=0∧Ps (Cn r p)=Ch (Cn r p)∧MW (Cn r p)=CC r p
 same:CC r p≠ByteArray.empty
 ca:Ak (Cn r p)=0∧NA (Cn r p)=r
 cb:Ak (Ch (Cn r p))=0∧NA (Ch (Cn r p))=r
 fin:KR (Ch (Cn r p)) false=0∧MS (Ch (Cn r p)) false=r
theorem We (r:Am) (p:BM):CC r p≠ByteArray.empty:=by
 intro h;have h1:(CC r p).size=0:=by rw[h];rfl
 by_cases ht:Bv r p=0
 ·have:=(Yu ht).1;omega
 ·have:=UI ht;omega
theorem apart {r:Am} {p:BM} (h:Kc r p=0):ZI r p:=by
 obtain⟨hr,h0,hp,hR⟩:=PS h;have hh:=NK hr hp;have hv:Cx (Ch (Cn r p)):=ML hh hp;have e1:IK (Cn r p) 1=0:=NM (Bm.2 hh) rfl;have e2:IK (Ch (Cn r p)) 2=0:=NM (Bm.2 hv) rfl;have ei:DJ r=r:=Vj hr h0;refine⟨hR,⟨e1,by unfold Ps;rw[if_pos e1],by unfold MW;rw[if_pos e1];rfl⟩,We r p,⟨Bm.2 hh,by unfold NA;rw[if_pos (Bm.2 hh)];exact ei⟩,⟨Bm.2 hv,by unfold NA;rw[if_pos (Bm.2 hv)];exact ei⟩,?_⟩;have ef:KR (Ch (Cn r p)) false=0:=by unfold KR;rw[if_neg (by simpa using e2)];rfl
 exact⟨ef,by unfold MS;rw[if_pos ef];exact ei⟩
theorem aM {r:Am} {p:BM} (h:Kc r p=0):KR (Ch (Cn r p)) true=(if Bv r p≠0 then Bv r p else if r.gen=999 then 2 else 0)∧
  (Bv r p=0→r.gen≠999→MS (Ch (Cn r p)) true=DZ r p∧Ak (DZ r p)=0):=by
 obtain⟨hr,h0,hp,hR⟩:=PS h;have hv:Cx (Ch (Cn r p)):=ML (NK hr hp) hp;have e2:IK (Ch (Cn r p)) 2=0:=NM (Bm.2 hv) rfl;have ef:KR (Ch (Cn r p)) true=(if Bv r p≠0 then Bv r p else if r.gen=999 then 2 else 0):=by
  unfold KR;rw[if_neg (by simpa using e2)];rfl
 refine⟨ef,fun ht hg=>⟨?_,Bm.2 (ND hr ht hg)⟩⟩;unfold MS;rw[if_pos (by rw[ef,if_neg (by simpa using ht),if_neg hg])];rfl
variable [Ghost]
structure BC (l:List Am):Prop where
 len:l.length=3
 each:∀i,i<3→Cx (Ag l i)
 refs:∀i j,i<3→j<3→(Ag l i).gen=(Ag l j).gen→(Ag l i).refs=(Ag l j).refs
 top:∃i j,i<j∧j<3∧(Ag l i).gen=(Ag l j).gen∧∀k,k<3→(Ag l k).gen≤(Ag l i).gen
theorem Py (l:List Am) (g:Int):Nv l g 3=(if(Ag l 0).gen=g then 1 else 0)+(if(Ag l 1).gen=g then 1 else 0)+(if(Ag l 2).gen=g then 1 else 0):=by
 simp only[Nv];omega
theorem Og {x y:Am}:IL x y=false↔(x.gen=y.gen→x.refs=y.refs):=by
 unfold IL;by_cases h:x.gen=y.gen
 ·rw[show(x.gen==y.gen)=true by simpa using h,Bool.true_and,Bool.not_eq_false',ED]
  exact⟨fun e _=>e,fun e=>e h⟩
 ·rw[show(x.gen==y.gen)=false by simpa using h,Bool.false_and]
  exact⟨fun _ e=>absurd e h,fun _=>rfl⟩
theorem YI {l:List Am} {i k:Nat} (hi:i≤l.length) (h:Fl l i=false) (hk:k<i):IL (Ag l i) (Ag l k)=false:=by
 cases ho:IL (Ag l i) (Ag l k)
 ·rfl
 ·rw[WM hi hk ho] at h;cases h
theorem Em {l:List Am}:Bp l=0↔BC l:=by
 constructor
 ·intro h
  obtain⟨hl,h1,h2,h3⟩:=Pw h;have hrf:∀i j,j<i→i<3→(Ag l i).gen=(Ag l j).gen→(Ag l i).refs=(Ag l j).refs:=fun i j hij hi=>Og.1 (YI (by omega) (h2 i hi) hij)
  refine⟨hl,fun i hi=>Bm.1 (h1 i hi),fun i j hi hj e=>?_,?_⟩
  ·rcases Nat.lt_trichotomy i j with h|h|h
   ·exact(hrf j i h hj e.symm).symm
   ·subst h;rfl
   ·exact hrf i j h hi e
  ·have hb:=(IW l l.length).1
   rw[hl] at hb;rw[NZ,hl,Py] at h3;have hbe:(AQ l 3).1=BS l:=by unfold BS;rw[hl]
   rw[hbe] at hb;generalize (Ag l (BS l)).gen=G at*;have g0:=hb 0 (by omega);have g1:=hb 1 (by omega);have g2:=hb 2 (by omega);by_cases e0:(Ag l 0).gen=G
   ·by_cases e1:(Ag l 1).gen=G
    ·exact⟨0,1,by omega,by omega,by omega,fun k hk=>by rw[e0];exact hb k hk⟩
    ·by_cases e2:(Ag l 2).gen=G
     ·exact⟨0,2,by omega,by omega,by omega,fun k hk=>by rw[e0];exact hb k hk⟩
     ·rw[if_pos e0,if_neg e1,if_neg e2] at h3;omega
   ·by_cases e1:(Ag l 1).gen=G
    ·by_cases e2:(Ag l 2).gen=G
     ·exact⟨1,2,by omega,by omega,by omega,fun k hk=>by rw[e1];exact hb k hk⟩
     ·rw[if_neg e0,if_pos e1,if_neg e2] at h3;omega
    ·rw[if_neg e0,if_neg e1] at h3
     split at h3<;>omega
 ·intro h
  have h0:An (fun i=>Ak (Ag l i)) 3=0:=Bd fun k hk=>Bm.2 (h.each k hk)
  have h1:An (Kp l) 3=0:=Bd fun k hk=>by
   unfold Kp;rw[Uo (by rw[h.len];omega) (fun j hj=>Og.2 fun e=>h.refs k j hk (by omega) e)];rfl
  rw[Nr h.len h0 h1];refine if_neg ?_;rw[NZ,h.len];obtain⟨i,j,hij,hj,e,hm⟩:=h.top;have hb:=(IW l l.length).1;rw[h.len] at hb;have hbe:(AQ l 3).1=BS l:=by unfold BS;rw[h.len]
  rw[hbe] at hb;have hG:(Ag l (BS l)).gen=(Ag l i).gen:=by
   have hlt:BS l<3:=by have:=GZ (l:=l) (by have:=h.len;omega);have:=h.len;omega
   have:=hm _ hlt;have:=hb i (by omega);omega
  rw[hG,Py];have hcase:(i=0∧j=1)∨(i=0∧j=2)∨(i=1∧j=2):=by omega
  rcases hcase with⟨rfl,rfl⟩|⟨rfl,rfl⟩|⟨rfl,rfl⟩
  ·rw[if_pos rfl,if_pos e.symm];split<;>omega
  ·rw[if_pos rfl,if_pos e.symm];split<;>omega
  ·rw[if_pos rfl,if_pos e.symm];split<;>omega
def DU (n:Int) (i:Nat):Bool:=n / 2 ^ i % 2==1
def Cb (l:List Am) (p:BM) (up:Int) (i:Nat):ByteArray:=if DU up i=true∧(Ag l i).phase=0 then CC (Ag l i) p else ByteArray.empty
def Cr (l:List Am) (p:BM) (up:Int):List ByteArray:=[Cb l p up 0,Cb l p up 1,Cb l p up 2]
def Bo (l:List Am) (p:BM) (up late:Int) (i:Nat):Bool:=(CZ (Cr l p up)).2 && ((Cb l p up i).toList==(CZ (Cr l p up)).1.toList) && !DU late i
def DG (l:List Am) (p:BM) (up late:Int):Nat→Nat
 |0=>0
 |k+1=>DG l p up late k+if Bo l p up late k=true then 1 else 0
def Ej (p:BM) (up late:Int):Int:=if As p≠0 then As p else if 0≤up∧up≤7∧0≤late∧late≤7 then 0 else 3
def Cp (l:List Am) (p:BM) (up late:Int):Bool:=decide (2≤DG l p up late 3)
def Dg (l:List Am) (p:BM) (up late:Int) (i:Nat):Int:=if Cp l p up late=true∧Bo l p up late i=true∧(Ag l i).gen=999 then 2 else 0
def BK (l:List Am) (p:BM) (up late:Int):Int:=if Ej p up late≠0 then Ej p up late else An (Dg l p up late) 3
def BA (l:List Am) (p:BM) (up late:Int) (i:Nat):Am:=if Cp l p up late=true∧Bo l p up late i=true then DZ (Ag l i) p else Ag l i
def Bf (l:List Am) (p:BM) (up late:Int):List Am:=if BK l p up late=0 then[BA l p up late 0,BA l p up late 1,BA l p up late 2] else[]
def Cf (l:List Am) (p:BM) (up late:Int):Bool:=if BK l p up late=0 then Cp l p up late else false
def KB (l:List Am) (p:BM) (up late:Int):Int:=if Bp l≠0 then Bp l else BK l p up late
def KC (l:List Am) (p:BM) (up late:Int):List Am:=if Bp l=0 then Bf l p up late else[]
def KA (l:List Am) (p:BM) (up late:Int):Bool:=if Bp l=0 then Cf l p up late else false
theorem TJ {l:List Am} (h:l.length=3):l=[Ag l 0,Ag l 1,Ag l 2]:=by
 match l,h with
 |[a,b,c],_=>rfl
theorem VD {l:List Am} {p:BM} {up late:Int} (h:BK l p up late=0) {i:Nat} (hi:i<3):Ag (Bf l p up late) i=BA l p up late i:=by
 unfold Bf;rw[if_pos h];have:i=0∨i=1∨i=2:=by omega
 rcases this with rfl|rfl|rfl<;>rfl
theorem Rq (l:List Am) (p:BM) (up late:Int):DG l p up late 3=(if Bo l p up late 0=true then 1 else 0)+(if Bo l p up late 1=true then 1 else 0)+(if Bo l p up late 2=true then 1 else 0):=by
 simp only[DG];omega
theorem Nw (l:List Am) (p:BM) (up late:Int):∀k,DG l p up late k≤k
 |0=>Nat.le_refl _
 |k+1=>by have:=Nw l p up late k;unfold DG;split<;>omega
def XP (l:List UInt8):Nat:=l.foldl (fun a c=>a*10+(c.toNat-48)) 0
theorem Uz:∀n,n<1000→XP (Lib.decDigits n)=n:=by
 have h:(List.range 1000).all (fun n=>XP (Lib.decDigits n)==n)=true:=by decide+kernel
 intro n hn;have:=List.all_eq_true.1 h n (List.mem_range.2 hn);simpa using this
theorem YO {a b:Int} (ha:0≤a∧a≤999) (hb:0≤b∧b≤999) (h:Bl a=Bl b):a=b:=by
 unfold Bl at h;have h1:Lib.decDigits a.toNat=Lib.decDigits b.toNat:=by
  have:=congrArg (fun x:ByteArray=>x.data.toList) h;simpa using this
 have h2:=congrArg XP h1;rw[Uz _ (by omega),Uz _ (by omega)] at h2;omega
theorem YH {a b c:ByteArray} (h:a++b=a++c):b=c:=by
 have:=congrArg (fun x:ByteArray=>x.data.toList) h;simp only[ByteArray.data_append,Array.toList_append] at this;exact Nj (List.append_cancel_left this)
theorem Ri {a b c:ByteArray} (h:a++c=b++c):a=b:=by
 have:=congrArg (fun x:ByteArray=>x.data.toList) h;simp only[ByteArray.data_append,Array.toList_append] at this;exact Nj (List.append_cancel_right this)
theorem Uh {r:Am} {p:BM} (h:IC (CC r p)=true):Bv r p=0:=by
 by_cases ht:Bv r p=0
 ·exact ht
 ·unfold CC at h
  rw[if_pos ht] at h;unfold IC at h;rw[ByteArray.data_append,Array.toList_append] at h;simp[aP] at h
theorem Yt {r s:Am} {p:BM} (hr:0≤r.gen∧r.gen≤999) (hs:0≤s.gen∧s.gen≤999) (h1:Bv r p=0) (h2:Bv s p=0) (h:CC r p=CC s p):r.gen=s.gen:=by
 unfold CC at h;rw[if_neg (by simpa using h1),if_neg (by simpa using h2)] at h;exact YO hr hs (YH (Ri (Ri h)))
structure Wo (l:List Am) (p:BM) (up late:Int) (i:Nat):Prop where
 isUp:DU up i=true
 idle:(Ag l i).phase=0
 onTime:DU late i=false
 told:CC (Ag l i) p=(CZ (Cr l p up)).1
 vote:Bv (Ag l i) p=0
theorem Ee {l:List Am} {p:BM} {up late:Int} {i:Nat} (h:Bo l p up late i=true):Wo l p up late i:=by
 unfold Bo at h;rw[Bool.and_eq_true,Bool.and_eq_true,BL,decide_eq_true_iff,Bool.not_eq_true'] at h;obtain⟨⟨h1,h2⟩,h3⟩:=h;have hT:CZ (Cr l p up)=((CZ (Cr l p up)).1,true):=Prod.ext rfl h1;obtain⟨_,_,hy⟩:=VW.1 hT;rw[←h2] at hy;unfold Cb at hy h2;by_cases hc:DU up i=true∧(Ag l i).phase=0
 ·rw[if_pos hc] at hy h2
  exact⟨hc.1,hc.2,h3,h2,Uh hy⟩
 ·rw[if_neg hc,PZ] at hy;cases hy
theorem Nx {l:List Am} {p:BM} {up late:Int} (hc:BC l) {i j:Nat} (hi:i<3) (hj:j<3) (h1:Wo l p up late i) (h2:Wo l p up late j):(Ag l i).gen=(Ag l j).gen:=
 Yt (hc.each i hi).gen (hc.each j hj).gen h1.vote h2.vote (h1.told.trans h2.told.symm)
theorem Ny {l:List Am} {p:BM} {up late:Int} (hc:BC l) (hd:Cp l p up late=true):∃i j,i<j∧j<3∧Wo l p up late i∧Wo l p up late j∧Bo l p up late i=true∧Bo l p up late j=true∧∀k,k<3→(Ag l k).gen≤(Ag l i).gen:=by
 have hn:2≤DG l p up late 3:=by simpa[Cp] using hd
 rw[Rq] at hn;have hex:∃i j,i<j∧j<3∧Bo l p up late i=true∧Bo l p up late j=true:=by
  by_cases c0:Bo l p up late 0=true
  ·by_cases c1:Bo l p up late 1=true
   ·exact⟨0,1,by omega,by omega,c0,c1⟩
   ·by_cases c2:Bo l p up late 2=true
    ·exact⟨0,2,by omega,by omega,c0,c2⟩
    ·rw[if_pos c0,if_neg c1,if_neg c2] at hn;omega
  ·by_cases c1:Bo l p up late 1=true
   ·by_cases c2:Bo l p up late 2=true
    ·exact⟨1,2,by omega,by omega,c1,c2⟩
    ·rw[if_neg c0,if_pos c1,if_neg c2] at hn;omega
   ·rw[if_neg c0,if_neg c1] at hn
    split at hn<;>omega
 obtain⟨i,j,hij,hj,ci,cj⟩:=hex;have Ci:=Ee ci;have Cj:=Ee cj;have hg:=Nx hc (by omega) hj Ci Cj;refine⟨i,j,hij,hj,Ci,Cj,ci,cj,?_⟩;obtain⟨a,b,hab,hb,e,hm⟩:=hc.top;have:(Ag l i).gen=(Ag l a).gen:=by
  have hx:i=a∨i=b∨j=a∨j=b:=by omega
  rcases hx with rfl|rfl|rfl|rfl
  ·rfl
  ·exact e.symm
  ·exact hg
  ·rw[hg];exact e.symm
 intro k hk;rw[this];exact hm k hk
theorem Xu {l:List Am} {p:BM} {up late:Int} (he:BK l p up late=0) (hd:Cp l p up late=true) {i:Nat} (hi:i<3) (h:Bo l p up late i=true):(Ag l i).gen≠999:=by
 intro hg;unfold BK at he;split at he
 ·rename_i h1;exact absurd he h1
 ·have:=Bn he i hi
  unfold Dg at this;rw[if_pos ⟨hd,h,hg⟩] at this;cases this
theorem UY {r s:Am} {p:BM} (h1:Bv r p=0) (h2:Bv s p=0) (h:r.refs=s.refs):ES r p=ES s p:=by
 rw[(Ub h1).moved,(Ub h2).moved,h]
theorem ER {l:List Am} {p:BM} {up late:Int} {i:Nat} (h:¬(Cp l p up late=true∧Bo l p up late i=true)):BA l p up late i=Ag l i:=by unfold BA;rw[if_neg h]
theorem Gj {l:List Am} {p:BM} {up late:Int} {i:Nat} (hd:Cp l p up late=true) (h:Bo l p up late i=true):BA l p up late i=DZ (Ag l i) p:=by unfold BA;rw[if_pos ⟨hd,h⟩]
theorem TG {l:List Am} {p:BM} {up late:Int} (hc:BC l) (he:BK l p up late=0):BC (Bf l p up late):=by
 have hat:∀i,i<3→Ag (Bf l p up late) i=BA l p up late i:=fun i hi=>VD he hi
 have hlen:(Bf l p up late).length=3:=by unfold Bf;rw[if_pos he];rfl
 cases hd:Cp l p up late
 ·have e:∀i,i<3→Ag (Bf l p up late) i=Ag l i:=fun i hi=>by rw[hat i hi];exact ER (by simp[hd])
  refine⟨hlen,fun i hi=>by rw[e i hi];exact hc.each i hi,fun i j hi hj=>by rw[e i hi,e j hj];exact hc.refs i j hi hj,?_⟩;obtain⟨i,j,hij,hj,e1,hm⟩:=hc.top;exact⟨i,j,hij,hj,by rw[e i (by omega),e j hj];exact e1,fun k hk=>by rw[e k hk,e i (by omega)];exact hm k hk⟩
 ·obtain⟨i,j,hij,hj,Ci,Cj,ci,cj,hm⟩:=Ny hc hd
  have hgen:∀k,k<3→(Ag (Bf l p up late) k).gen≤(Ag l i).gen+1∧(Bo l p up late k=true→(Ag (Bf l p up late) k).gen=(Ag l i).gen+1)∧(Bo l p up late k=false→Ag (Bf l p up late) k=Ag l k):=fun k hk=>by
   rw[hat k hk];cases hb:Bo l p up late k
   ·rw[ER (by simp[hb])]
    exact⟨by have:=hm k hk;omega,fun h=>by(cases h),fun _=>rfl⟩
   ·rw[Gj hd hb]
    have:(Ag l k).gen=(Ag l i).gen:=Nx hc hk (by omega) (Ee hb) Ci;exact⟨by show(Ag l k).gen+1≤_;omega,fun _=>by show(Ag l k).gen+1=_;omega,fun h=>by(cases h)⟩
  refine⟨hlen,fun k hk=>?_,fun a b ha hb e=>?_,⟨i,j,hij,hj,?_,fun k hk=>?_⟩⟩
  ·rw[hat k hk]
   cases hb:Bo l p up late k
   ·rw[ER (by simp[hb])];exact hc.each k hk
   ·rw[Gj hd hb]
    exact ND (hc.each k hk) (Ee hb).vote (Xu he hd hk hb)
  ·cases ca:Bo l p up late a<;>cases cb:Bo l p up late b
   ·rw[(hgen a ha).2.2 ca,(hgen b hb).2.2 cb] at e⊢;exact hc.refs a b ha hb e
   ·rw[(hgen a ha).2.2 ca,(hgen b hb).2.1 cb] at e;have:=hm a ha;omega
   ·rw[(hgen a ha).2.1 ca,(hgen b hb).2.2 cb] at e;have:=hm b hb;omega
   ·rw[hat a ha,hat b hb,Gj hd ca,Gj hd cb]
    exact UY (Ee ca).vote (Ee cb).vote (hc.refs a b ha hb (Nx hc ha hb (Ee ca) (Ee cb)))
  ·rw[(hgen i (by omega)).2.1 ci,(hgen j hj).2.1 cj]
  ·rw[(hgen i (by omega)).2.1 ci];exact(hgen k hk).1
variable [Ghost]
theorem YJ:∀(k:Fin 8) (i:Fin 3),(bits BinOp.and IntKind.i64 ((k.1:Int) / 2 ^ min i.1 64) 1==0)=(!DU (k.1:Int) i.1)∧(bits BinOp.and IntKind.i64 ((k.1:Int) / 2 ^ min i.1 64) 1==1)=DU (k.1:Int) i.1:=by decide+kernel
theorem Up {n:Int} {i:Nat} (h:0≤n∧n≤7) (hi:i<3):(bits BinOp.and IntKind.i64 (n / 2 ^ min i 64) 1==0)=(!DU n i)∧(bits BinOp.and IntKind.i64 (n / 2 ^ min i 64) 1==1)=DU n i:=by
 obtain⟨k,rfl⟩:∃k:Nat,n=(k:Int):=⟨n.toNat,by omega⟩;exact YJ ⟨k,by omega⟩ ⟨i,hi⟩
theorem Mm (M i:Nat) (vv:Value) (vs:List ByteArray) (t:ByteArray) (late:Int) (S:Nat→Prop) (w:World) (c1:w.cell? ⟨M,1,none⟩=some vv) (c2:w.cell? ⟨M,2,none⟩=some (.string t)) (hv:De S w vv vs) (hi:i<vs.length) (hl:0≤late∧late≤7) (hn:vs.length≤3):
  Calls Tryz.prog 99 #[.pointer (some ⟨M,0,none⟩),.int .i64 (i:Int),.int .i64 late] w fun e w'=>e=.returned (.bool (((sa vs i).toList==t.toList) && !DU late i))∧Below w.heap.size w w':=by
 obtain⟨a,n,cap,HN,rfl,h1,h2,h3,h4⟩:=hv.open;obtain⟨b,off,rfl,_,h5⟩:=h4 (by have:=HN.out;omega);have hin:i<n:=by have:=HN.out;omega
 have i1:=zk i;have i2:(i:Int)<(n:Int):=by omega
 have x0:=h5 i w hin (Below.refl _ _);have HL:=zh hl;have HNn:=zh hn;clear hv hi hl hn h4 h5 h1 h2 h3;generalize sa vs i=s at*;have Hb:=zh (Up (n:=late) (i:=i) HL.out (by have:=HNn.out;have:=HN.out;omega)).1;cases hq:(s.toList==t.toList)
 all_goals
  go_enter Tryz.func99, Tryz.ntmps99
  go_wp2_with fail;go_quiet (fail);generalize hw2:w.drewN _=w2;have HE:=zh (show Below w.heap.size w w2 by rw[←hw2];exact CA w _ _ (Below.refl _ _));clear hw2;go_wp2_with fail;go_ret
 ·exact⟨rfl,HE.out⟩
 ·exact⟨by rw[Hb.out];rfl,HE.out⟩
def Nh (B:Nat) (w:World) (v:Value) (l:List ByteArray):Prop:=w.ownsRow B 9 1 v l.length (l.map Value.string)∧∀s∈l,s.size≤140737488351232
theorem Nh.below {B:Nat} {w w':World} {v:Value} {l:List ByteArray} (h:Nh B w v l) (hb:Below w.heap.size w w'):Nh B w' v l:=⟨DR h.1 hb,h.2⟩
theorem Nh.upd {T:Nat→Prop} {B:Nat} {w w':World} {v:Value} {l:List ByteArray} (h:Nh B w v l) (hu:AK T w w') (hT:∀g,v.ownBlock=some g→¬T g):Nh B w' v l:=⟨Fx h.1 hu hT,h.2⟩
theorem Nh.strs {B:Nat} {w:World} {v:Value} {l:List ByteArray} (h:Nh B w v l) (hl:l.length≤3):De (fun b=>B≤b) w v l:=XT h.1 rfl h.2 (by omega)
def Cw (B g c M:Nat) (w:World) (L:List Am) (vs:List ByteArray) (t:ByteArray):Prop:=
 ∃(F:Nat→Prop) (vv:Value),BD F B w (.slice (some ⟨g,0,none⟩) L.length c) L∧Nh B w vv vs∧(∀b,F b→B≤b∧b≠M∧vv.ownBlock≠some b)∧vv.ownBlock≠some M∧vv.ownBlock≠some g∧g≠M∧
  w.heap[M]?=some (.cells #[.slice (some ⟨g,0,none⟩) L.length c,vv,.string t] 114 (0,0))
theorem Cw.below {B g c M:Nat} {w w':World} {L:List Am} {vs:List ByteArray} {t:ByteArray} (h:Cw B g c M w L vs t) (hb:Below w.heap.size w w'):Cw B g c M w' L vs t:=by
 obtain⟨F,vv,h1,h2,h3,h4,h5,h6,h7⟩:=h;exact⟨F,vv,h1.below hb,h2.below hb,h3,h4,h5,h6,(hb.block _ (lt_of_block h7)).trans h7⟩
def Ie (vs:List ByteArray) (t:ByteArray) (ok:Bool) (late:Int):Nat→Nat
 |0=>0
 |k+1=>Ie vs t ok late k+if(ok && (((sa vs k).toList==t.toList) && !DU late k))=true then 1 else 0
theorem Qm (vs:List ByteArray) (t:ByteArray) (ok:Bool) (late:Int):∀k,Ie vs t ok late k≤k
 |0=>Nat.le_refl _
 |k+1=>by have:=Qm vs t ok late k;unfold Ie;split<;>omega
def Uj (M:Nat) (late:Int) (w:World) (f:Value):Prop:=∃p q:Nat,f=.func (.func 100) #[] #[.pointer (some ⟨p,0,none⟩),.pointer (some ⟨q,0,none⟩)]∧w.heap[p]?=some (.cells #[.pointer (some ⟨M,0,none⟩)] 112 (0,0))∧w.heap[q]?=some (.cells #[.int .i64 late] 3 (0,0))
theorem Td (g c M B:Nat) (w:World) (L:List Am) (vs:List ByteArray) (t0:ByteArray) (late:Int) (hM:Cw B g c M w L vs t0) (h3:vs.length=3) (hl:0≤late∧late≤7) (hBM:B≤M):
  Calls Tryz.prog 69 #[.pointer (some ⟨M,0,none⟩),.int .i64 late] w fun e w'=>∃f,e=.returned f∧Below B w w'∧Cw B g c M w' L vs (CS vs).1∧(¬2≤Ie vs (CS vs).1 (CS vs).2 late 3→f=.nilFunc)∧(2≤Ie vs (CS vs).1 (CS vs).2 late 3→Uj M late w' f):=by
 have HM:=zh hM;obtain⟨F,vv,hO,hV,hF,hvM,hvg,hgM,hMb⟩:=hM;have hMs:M<w.heap.size:=lt_of_block hMb;have HO:=zh hO;have HV:=zh hV;have HF:=zh hF;have HvM:=zh hvM;have Hvg:=zh hvg;have HgM:=zh hgM;have HMb:=zh hMb;have H3:=zh h3;have HLt:=zh hl;obtain⟨⟨va,vc⟩,hvv⟩:=(hV.strs (by omega)).shape;obtain⟨n,hn⟩:∃n:Nat,n=3:=⟨3,rfl⟩;clear hO hV hF hvM hvg hgM h3 hl HM;obtain⟨R,hR,hR1,HB0⟩:=AF w [.cells #[.pointer (some ⟨M,0,none⟩)] 112,.cells #[.int .i64 late] 3];simp only[List.foldl] at hR1;have hRb:=hR.below;have hRn:=hR.next
 have q2:=fun x (hx:In R x)=>Aa (j:=0) (HB0 x hx 0 _ rfl) rfl
 have q3:=fun x (hx:In R x)=>Aa (j:=0) (HB0 x hx 1 _ rfl) rfl
 simp only[Nat.add_zero] at q2 q3;have m1:=fun x (hx:In R x)=>Ae (hRb _ hx) (Aa (j:=1) hMb rfl)
 have HC:=zh (VV vs vv _ _ ((HV.out.strs (by have:=H3.out;omega)).below (hRb _ hR1)));have Hvv:=zh hvv;subst hvv;simp only[H3.out] at m1 HC;clear hMb Hvv;obtain⟨told,htold⟩:∃told,told=(CS vs).1:=⟨_,rfl⟩;obtain⟨ok,hok⟩:∃ok,ok=(CS vs).2:=⟨_,rfl⟩;rw[←htold,←hok] at HC⊢;clear htold hok
 go_enter Tryz.func69, Tryz.ntmps69
 go_wp2_with fail;refine HC.out.mono ?_;rintro e x1 ⟨rfl,hb1⟩;have hRx:=hRn _ _ hR1 hb1;have hbx:=hRb _ hRx;have hMx:=(hbx.block _ hMs).trans HMb.out;have j2:=Aa (j:=2) hMx rfl;have f2:=Ad (j:=2) hMx;have hU:=su M 2 x1 (.string told);have hM2:=Ah (j:=2) hMx (.string told);simp only[List.setIfInBounds_toArray,List.set_cons_zero,List.set_cons_succ] at hM2;have b2:=HB0 x1 hRx 0 _ rfl;have b3:=HB0 x1 hRx 1 _ rfl;simp only[Nat.add_zero] at b2;have k2:=hU.blk b2 (by omega);have k3:=hU.blk b3 (by omega);obtain⟨T,hT,hT1,_⟩:=Av (x1.setCell ⟨M,2,none⟩ (.string told));have hTb:=hT.below;have hTn:=hT.next
 have s2:=fun x (hx:In T x)=>Ae (hTb _ hx) (Aa (j:=0) k2 rfl)
 have s3:=fun x (hx:In T x)=>Ae (hTb _ hx) (Aa (j:=0) k3 rfl)
 have Hk:=zh (fun x (hx:In T x)=>And.intro (((hTb _ hx).block _ (lt_of_block k2)).trans k2) (((hTb _ hx).block _ (lt_of_block k3)).trans k3));have s1:=fun x (hx:In T x)=>Ae (hTb _ hx) (Aa (j:=1) hM2 rfl)
 have s4:=fun x (hx:In T x)=>Ae (hTb _ hx) (Aa (j:=2) hM2 rfl)
 have hVx:=(HV.out.below hbx).upd hU (fun q hq e=>HvM.out (by rw[hq,e]));have HC2:=zh (fun x (hx:In T x) (k:Nat) (hk:k<3)=>Mm M k (.slice va vs.length vc) vs told late _ x (s1 x hx) (s4 x hx) ((hVx.strs (by have:=H3.out;omega)).below (hTb _ hx)) (by rw[H3.out];exact hk) HLt.out (by rw[H3.out];exact Nat.le_refl _));have HLd:=zh (show Cw B g c M (x1.setCell ⟨M,2,none⟩ (.string told)) L vs told from⟨F,_,(HO.out.below hbx).upd hU (fun b hb e=>(HF.out b hb).2.1 e) (fun q hq e=>by simp only[Value.ownBlock,Option.some.injEq] at hq;exact HgM.out (hq.trans e)),hVx,HF.out,HvM.out,Hvg.out,HgM.out,hM2⟩);have HBw:=zh ((hbx.mono (show B≤w.heap.size by omega)).trans (hU.below (B:=B) (by have:=hbx.size;omega) (fun b hb=>by subst hb;exact hBM)));have z1:=s1 _ hT1;have z2:=s2 _ hT1;have z3:=s3 _ hT1;simp only[H3.out] at s1 z1;clear hVx hU hM2 k2 k3 b2 b3 hMx hbx HC hb1 s4;go_wp2_with fail;generalize x1.setCell ⟨M,2,none⟩ (.string told)=x2 at*;clear j2 f2 m1 q2 q3 hRx z1 z2 z3;go_loopw [26,7] (fun a b wr=>∃k:Nat,k≤3∧a=.int .i64 k∧b=.int .i64 (Ie vs told ok late k)∧In T wr) (fun a _ _=>3-(intOf a).toNat)
 case atStart=>exact⟨0,by omega,rfl,rfl,hT1⟩
 obtain⟨k,hk,rfl,rfl,hTr⟩:=hrel;by_cases hlt:k<3
 case neg=>
  obtain rfl:k=3:=by omega
  have hc:=Qm vs told ok late 3;have HNe:Hid (∃N,N=Ie vs told ok late 3):=⟨_,rfl⟩;obtain⟨N,hN⟩:=HNe.out;rw[←hN] at hc⊢;have HNe:=zh hN;clear hN;have HLe:=zh (HLd.out.below (hTb _ hTr));have HBe:=zh (HBw.out.trans ((hTb _ hTr).mono (show B≤x2.heap.size by have:=HBw.out.size;omega)));have hw:=Be (n:=2*(N:Int)) (by omega);have y2:=s2 _ hTr;have y3:=s3 _ hTr;by_cases h2:2≤N
  case pos=>
   have hq:decide (2*(N:Int)≤3)=false:=by simp;omega
   have H2:=zh h2;have Hy:=zh (Hk.out _ hTr);clear h2 hc;go_wp2_with fail;go_ret;exact⟨_,rfl,HBe.out,HLe.out,fun h=>absurd H2.out (by rw[HNe.out];exact h),fun _=>⟨_,_,rfl,Hy.out.1,Hy.out.2⟩⟩
  have hq:decide (2*(N:Int)≤3)=true:=by simp;omega
  have H2:=zh h2;clear h2 hc;go_wp2_with fail;go_ret;exact⟨_,rfl,HBe.out,HLe.out,fun _=>rfl,fun h=>absurd (by rw[HNe.out];exact h) H2.out⟩
 have Hn:=zh (show Ie vs told ok late (k+1)=Ie vs told ok late k+if(ok && (((sa vs k).toList==told.toList) && !DU late k))=true then 1 else 0 from rfl);have hc:=Qm vs told ok late k;have y2:=s2 _ hTr;have y3:=s3 _ hTr;have HCk:=zh (HC2.out _ hTr k hlt);have hwn:=Be (n:=(Ie vs told ok late k:Int)+1) (by omega);cases ok
 case false=>
  have Hr:=zh (show Ie vs told false late (k+1)=Ie vs told false late k by rw[Hn.out,Bool.false_and,if_neg (by decide)];rfl);generalize Ie vs told false late k=N at*;clear Hn hc;go_wp2_with fail;go_roundw
  case rel=>exact⟨k+1,by omega,by go_num,by rw[Hr.out],hTr⟩
  case measure=>simp[intOf];omega
 generalize hbb:(((sa vs k).toList==told.toList) && !DU late k)=bb at*;rw[Bool.true_and] at Hn;generalize Ie vs told true late k=N at*;clear hbb;go_wp2_with fail;refine HCk.out.mono ?_;rintro e y ⟨rfl,hby⟩;have hTy:=hTn _ _ hTr hby;clear hby HCk;cases bb
 case false=>
  have Hr:=zh (show Ie vs told true late (k+1)=N by rw[Hn.out,if_neg (by decide)];rfl);clear Hn hc;go_wp2_with fail;go_roundw
  case rel=>exact⟨k+1,by omega,by go_num,by rw[Hr.out],hTy⟩
  case measure=>simp[intOf];omega
 have Hr:=zh (show Ie vs told true late (k+1)=N+1 by rw[Hn.out,if_pos rfl]);clear Hn hc;go_wp2_with fail;go_roundw
 case rel=>exact⟨k+1,by omega,by go_num,by rw[Hr.out];go_num,hTy⟩
 case measure=>simp[intOf];omega
end Go.Proofs.YtgbnlmplkealdaaGreatDoor
