
/- UpdL: PushP, UpdL, LineP, VoteP. -/
import Derived.Test.YtgbnlmplkealdaaGreatDoorC16
import Derived.Lib.ItoaNum
import Derived.Lib.Join
import Derived.Shelf.SlSortCmp.WholeK
import Derived.Shelf.SlGeneric
import Derived.Ground.SlsfProg
set_option linter.all false
set_option maxHeartbeats 4000000
set_option maxRecDepth 100000
namespace Go.Proofs.YtgbnlmplkealdaaGreatDoor
open Go.RowKit
variable [Ghost]
theorem Xx {l:List Rf} (h:KG l) (s:ByteArray) (id:Int):CR (CW l s id) s=id:=by
 rcases EO (Nc h s id) s with⟨e,hn⟩|⟨x,hx,hs,e⟩
 ·by_cases h0:id=0
  ·rw[e,h0]
  ·exact absurd rfl (hn ⟨s,id⟩ (Ip.2 (.inr ⟨h0,rfl⟩)))
 ·rcases Ip.1 hx with⟨_,hne⟩|⟨_,rfl⟩
  ·exact absurd hs hne
  ·exact e
theorem Mr {l:List Rf} (h:KG l) {s t:ByteArray} (id:Int) (hne:t≠s):CR (CW l s id) t=CR l t:=by
 rcases EO h t with⟨e,hn⟩|⟨x,hx,hs,e⟩
 ·rw[e,LW]
  intro x hx;rcases Ip.1 hx with⟨hx,_⟩|⟨_,rfl⟩
  ·exact hn x hx
  ·exact fun e=>hne e.symm
 ·rw[e]
  have:=NL (Nc h s id) (x:=x) (Ip.2 (.inl ⟨hx,by rw[hs];exact hne⟩))
  rwa [hs] at this
theorem Yi {l:List Rf} (h:KG l) {s:ByteArray} {id:Int} (h0:id≠0) (e:CR l s=id):CW l s id=l:=by
 refine Qh (Nc h s id) h fun x=>?_
 rw[Ip];rcases EO h s with⟨e0,_⟩|⟨y,hy,hs,e1⟩
 ·exact absurd (e.symm.trans e0) h0
 ·have hyy:y=⟨s,id⟩:=by
   cases y;simp only at hs e1;rw[hs,←e1,e]
  constructor
  ·rintro(⟨hx,_⟩|⟨_,rfl⟩)
   ·exact hx
   ·rw[←hyy];exact hy
  ·intro hx
   by_cases hn:x.name=s
   ·exact .inr ⟨h0,by rw[←hyy];exact Rg h hx hy (by rw[hn,hs])⟩
   ·exact .inl ⟨hx,hn⟩
theorem XL {us:List Mv} (h:EJ us) {i j:Nat} (hij:i<j) (hj:j<us.length):(mv us i).name≠(mv us j).name:=by
 have:=List.pairwise_iff_getElem.1 h.once i j (by omega) hj hij
 rwa [←Da,←Da] at this
theorem Se {l:List Rf} (h:KG l) {us:List Mv} (hu:EJ us) {j:Nat}:∀i,j<i→i≤us.length→CR (AL l us i) (mv us j).name=(mv us j).new
 |0,h1,_=>absurd h1 (by omega)
 | i+1,h1,h2=>by
  show CR (CW (AL l us i) (mv us i).name (mv us i).new) _=_
  by_cases e:j=i
  ·subst e;exact Xx (EQ h us _) _ _
  ·rw[Mr (EQ h us _) _ (XL hu (by omega) (by omega))]
   exact Se h hu i (by omega) (by omega)
theorem ON {l:List Rf} (h:KG l) {us:List Mv} (hu:EJ us) {j:Nat} (hj:j<us.length):∀i,i≤j→CR (AL l us i) (mv us j).name=CR l (mv us j).name
 |0,_=>rfl
 |i+1,h1=>by
  show CR (CW (AL l us i) (mv us i).name (mv us i).new) _=_
  rw[Mr (EQ h us _) _ (fun e=>XL hu (i:=i) (j:=j) (by omega) hj e.symm)];exact ON h hu hj i (by omega)
structure WA (r:Am) (p:BM) (L:List Obj) (M:List Rf):Prop where
 add:DE r.store p.objects=0
 whole:L=CD r.store p.objects
 moved:M=AL r.refs p.updates p.updates.length
 mvs:EJ p.updates
 refs:Ap r.refs L=0
 each:An (BJ r.refs L p.updates p.force) p.updates.length=0
 right:AE M L=0
theorem Ub {r:Am} {p:BM} (h:Bv r p=0):WA r p (Fp r p) (ES r p):=by
 have h':=h;unfold Bv at h';by_cases ha:DE r.store p.objects=0
 ·rw[if_neg (by simp[ha])] at h'
  have h2:=h';unfold CQ at h2;by_cases hc:Ap r.refs (CD r.store p.objects)=0
  ·rw[if_neg (by simp[hc])] at h2
   by_cases hm:AP p.updates=0
   ·rw[if_neg (by simp[hm])] at h2
    have hL:Fp r p=CD r.store p.objects:=by unfold Fp;rw[if_pos h]
    have hM:ES r p=AL r.refs p.updates p.updates.length:=by unfold ES Ei;rw[if_pos h,if_pos h']
    rw[hL,hM];unfold Ce at h2;by_cases hs:An (BJ r.refs (CD r.store p.objects) p.updates p.force) p.updates.length=0
    ·rw[if_pos hs] at h2
     exact⟨ha,rfl,rfl,Jp.1 hm,hc,hs,h2⟩
    ·rw[if_neg hs] at h2;exact absurd h2 hs
   ·rw[if_pos hm] at h2;exact absurd h2 hm
  ·rw[if_pos hc] at h2;exact absurd h2 hc
 ·rw[if_pos ha] at h';exact absurd h' ha
theorem WA.store {r:Am} {p:BM} {L:List Obj} {M:List Rf} (h:WA r p L M):Aj L=0:=(Bz.1 h.refs).1
def XK (us:List Mv):Bool:=us.any fun u=>u.old !=u.new
variable [Ghost]
structure CN (l:List Rf) (objs:List Obj) (us:List Mv) (force:Bool) (M:List Rf):Prop where
 refs:Ap l objs=0
 mvs:EJ us
 each:∀u∈us,CR l u.name=u.old∧(u.new≠0→AC objs u.new=3∧(u.old≠0→force=false→Dj objs u.old u.new=true))
 mem:∀x,x∈M↔(∃u∈us,u.new≠0∧x=⟨u.name,u.new⟩)∨(x∈l∧∀u∈us,u.name≠x.name)
 asc:KG M
 right:AE M objs=0
theorem PN {l:List Rf} {us:List Mv} (hu:EJ us) (x:Rf):∀k,k≤us.length→(x∈AL l us k↔(∃i,i<k∧(mv us i).new≠0∧x=⟨(mv us i).name,(mv us i).new⟩)∨(x∈l∧∀i,i<k→(mv us i).name≠x.name))
 |0,_=>by simp[AL]
 | k+1,hk=>by
  show x∈CW (AL l us k) (mv us k).name (mv us k).new↔_
  rw[Ip,PN hu x k (by omega)];constructor
  ·rintro(⟨⟨i,hi,h0,rfl⟩|⟨hx,hn⟩,hne⟩|⟨h0,rfl⟩)
   ·exact .inl ⟨i,by omega,h0,rfl⟩
   ·refine .inr ⟨hx,fun i hi=>?_⟩
    by_cases e:i=k
    ·subst e;exact fun e=>hne e.symm
    ·exact hn i (by omega)
   ·exact .inl ⟨k,by omega,h0,rfl⟩
  ·rintro(⟨i,hi,h0,rfl⟩|⟨hx,hn⟩)
   ·by_cases e:i=k
    ·subst e;exact .inr ⟨h0,rfl⟩
    ·exact .inl ⟨.inl ⟨i,by omega,h0,rfl⟩,XL hu (by omega) (by omega)⟩
   ·exact .inl ⟨.inr ⟨hx,fun i hi=>hn i (by omega)⟩,fun e=>hn k (by omega) e.symm⟩
theorem Qz {l:List Rf} {us:List Mv} (hu:EJ us) (x:Rf):x∈AL l us us.length↔(∃u∈us,u.new≠0∧x=⟨u.name,u.new⟩)∨(x∈l∧∀u∈us,u.name≠x.name):=by
 rw[PN hu x _ (Nat.le_refl _)];constructor
 ·rintro(⟨i,hi,h0,e⟩|⟨hx,hn⟩)
  ·exact .inl ⟨_,Cz hi,h0,e⟩
  ·refine .inr ⟨hx,fun u hu=>?_⟩
   obtain⟨i,hi,rfl⟩:=FN hu;exact hn i hi
 ·rintro(⟨u,hu,h0,e⟩|⟨hx,hn⟩)
  ·obtain⟨i,hi,rfl⟩:=FN hu
   exact .inl ⟨i,hi,h0,e⟩
  ·exact .inr ⟨hx,fun i hi=>hn _ (Cz hi)⟩
theorem CN.list {l:List Rf} {objs:List Obj} {us:List Mv} {force:Bool} {M:List Rf} (h:CN l objs us force M):AL l us us.length=M:=
 Qh (EQ (Bz.1 h.refs).2.asc us _) h.asc fun x=>by rw[Qz h.mvs,h.mem]
theorem CN.of {l:List Rf} {objs:List Obj} {us:List Mv} {force:Bool} {M:List Rf} (h:CN l objs us force M):CQ l objs us force=0∧Ei l objs us force=M:=by
 have hasc:KG l:=(Bz.1 h.refs).2.asc;have hz:An (BJ l objs us force) us.length=0:=Bd fun i hi=>Is.2 (by
  rw[ON hasc h.mvs hi i (Nat.le_refl _)];exact h.each _ (Cz hi))
 have h0:CQ l objs us force=0:=by
  unfold CQ Ce;rw[if_neg (by simpa using h.refs),if_neg (by simpa using Jp.2 h.mvs),if_pos hz,h.list];exact h.right
 exact⟨h0,by unfold Ei;rw[if_pos h0];exact h.list⟩
theorem EJ.perm {us vs:List Mv} (h:EJ us) (hp:vs.Perm us):EJ vs where
 some:=by rw[hp.length_eq];exact h.some
 many:=by rw[hp.length_eq];exact h.many
 name:=fun u hu=>h.name u (hp.mem_iff.1 hu)
 old:=fun u hu=>h.old u (hp.mem_iff.1 hu)
 new:=fun u hu=>h.new u (hp.mem_iff.1 hu)
 moves:=fun u hu=>h.moves u (hp.mem_iff.1 hu)
 once:=(hp.pairwise_iff (fun {a b} hab e=>hab e.symm)).2 h.once
theorem CN.perm {l:List Rf} {objs:List Obj} {us vs:List Mv} {force:Bool} {M:List Rf} (h:CN l objs us force M) (hp:vs.Perm us):CN l objs vs force M where
 refs:=h.refs
 mvs:=h.mvs.perm hp
 each:=fun u hu=>h.each u (hp.mem_iff.1 hu)
 mem:=fun x=>by
  rw[h.mem];simp only[hp.mem_iff]
 asc:=h.asc
 right:=h.right
theorem XD {objs:List Obj} (h:Aj objs=0):¬AC objs 0=3:=fun hk=>by
 obtain⟨j,hj,he,_⟩:=FM (l:=objs) (id:=0) (by rw[hk];decide);have h3:=(GR h).each j hj;unfold Aw at h3;have hw:within (obj objs j).id 1 99=false:=by rw[he];decide
 simp[hw] at h3
def ST (u:Mv):Mv:=⟨u.name,u.new,u.old⟩
theorem CN.asc0 {l:List Rf} {objs:List Obj} {us:List Mv} {force:Bool} {M:List Rf} (h:CN l objs us force M):KG l:=(Bz.1 h.refs).2.asc
theorem CN.told {l:List Rf} {objs:List Obj} {us:List Mv} {force:Bool} {M:List Rf} (h:CN l objs us force M) {u:Mv} (hu:u∈us):CR M u.name=u.new:=by
 obtain⟨i,hi,rfl⟩:=FN hu;rw[←h.list];exact Se h.asc0 h.mvs _ hi (Nat.le_refl _)
theorem CN.stays {l:List Rf} {objs:List Obj} {us:List Mv} {force:Bool} {M:List Rf} (h:CN l objs us force M) {s:ByteArray} (hs:∀u∈us,u.name≠s):CR M s=CR l s:=by
 rcases EO h.asc0 s with⟨e,hn⟩|⟨x,hx,hxs,e⟩
 ·rw[e]
  refine LW fun x hx e2=>?_
  rcases(h.mem x).1 hx with⟨u,hu,_,rfl⟩|⟨hx2,_⟩
  ·exact hs u hu e2
  ·exact hn x hx2 e2
 ·rw[e]
  have:=NL h.asc (x:=x) ((h.mem x).2 (.inr ⟨hx,fun u hu=>by rw[hxs];exact hs u hu⟩))
  rwa [hxs] at this
theorem CN.back {l:List Rf} {objs:List Obj} {us:List Mv} {force:Bool} {M:List Rf} (h:CN l objs us force M):CN M objs (us.map ST) true l:=by
 have hok:=(Bz.1 h.refs);have hu:=h.mvs;refine⟨Bz.2 ⟨hok.1,EY h.right⟩,⟨?_,?_,?_,?_,?_,?_,?_⟩,?_,?_,h.asc0,Mz hok.2⟩
 ·rw[List.length_map];exact hu.some
 ·rw[List.length_map];exact hu.many
 ·intro u hm;obtain⟨v,hv,rfl⟩:=List.mem_map.1 hm;exact hu.name v hv
 ·intro u hm;obtain⟨v,hv,rfl⟩:=List.mem_map.1 hm;exact hu.new v hv
 ·intro u hm;obtain⟨v,hv,rfl⟩:=List.mem_map.1 hm;exact hu.old v hv
 ·intro u hm;obtain⟨v,hv,rfl⟩:=List.mem_map.1 hm;exact fun e=>hu.moves v hv ⟨e.2,e.1⟩
 ·rw[List.pairwise_map];exact hu.once
 ·intro u hm
  obtain⟨v,hv,rfl⟩:=List.mem_map.1 hm;refine⟨h.told hv,fun h0=>⟨?_,fun _ e=>by cases e⟩⟩;rcases EO h.asc0 v.name with⟨e,_⟩|⟨x,hx,hxs,e⟩
  ·exact absurd ((h.each v hv).1.symm.trans e) h0
  ·have e2:v.old=x.id:=(h.each v hv).1.symm.trans e
   show AC objs v.old=3
   rw[e2];obtain⟨i,hi,rfl⟩:=Ma hx;exact hok.2.commit i hi
 ·intro x
  constructor
  ·intro hx
   by_cases ht:∃u∈us,u.name=x.name
   ·obtain⟨u,hu2,e⟩:=ht
    refine .inl ⟨ST u,List.mem_map.2 ⟨u,hu2,rfl⟩,?_⟩;have e2:CR l u.name=x.id:=by rw[e];exact NL h.asc0 hx
    have e3:u.old=x.id:=(h.each u hu2).1.symm.trans e2;obtain⟨i,hi,rfl⟩:=Ma hx;have hk:=hok.2.commit i hi;refine⟨fun h0=>?_,?_⟩
    ·have h0':(rf l i).id=0:=by rw[←e3];exact h0
     rw[h0'] at hk;exact absurd hk (XD hok.1)
    ·show rf l i=⟨u.name,u.old⟩
     rw[e,e3]
   ·refine .inr ⟨(h.mem x).2 (.inr ⟨hx,fun u hu e=>ht ⟨u,hu,e⟩⟩),fun u hm e=>?_⟩
    obtain⟨v,hv,rfl⟩:=List.mem_map.1 hm;exact ht ⟨v,hv,e⟩
  ·rintro(⟨u,hm,h0,rfl⟩|⟨hx,hn⟩)
   ·obtain⟨v,hv,rfl⟩:=List.mem_map.1 hm
    rcases EO h.asc0 v.name with⟨e,_⟩|⟨y,hy,hys,e⟩
    ·exact absurd ((h.each v hv).1.symm.trans e) h0
    ·have e2:v.old=y.id:=(h.each v hv).1.symm.trans e
     show(⟨v.name,v.old⟩:Rf)∈l
     rw[e2,←hys];exact hy
   ·rcases(h.mem x).1 hx with⟨u,hu2,_,rfl⟩|⟨hx2,_⟩
    ·exact absurd rfl (hn (ST u) (List.mem_map.2 ⟨u,hu2,rfl⟩))
    ·exact hx2
theorem CN.twice {l:List Rf} {objs:List Obj} {us:List Mv} {force:Bool} {M:List Rf} (h:CN l objs us force M) (hm:XK us=true):CQ M objs us force=4:=by
 have hM:Fk M objs:=EY h.right;have hz:∀j,j<us.length→_:=fun j hj=>h.each _ (Cz (l:=us) (i:=j) hj)
 have hid:∀j,j<us.length→CR M (mv us j).name=(mv us j).new:=fun j hj=>h.told (Cz hj)
 have hex:∃k,k<us.length∧(mv us k).old≠(mv us k).new∧∀j,j<k→(mv us j).old=(mv us j).new:=by
  unfold XK at hm;obtain⟨u,hu,hne⟩:=List.any_eq_true.1 hm;obtain⟨i,hi,rfl⟩:=FN hu;have hi2:(mv us i).old≠(mv us i).new:=by simpa using hne
  clear hm hu hne
  induction i using Nat.strongRecOn with
  | ind i ih=>
   by_cases hall:∀j,j<i→(mv us j).old=(mv us j).new
   ·exact⟨i,hi,hi2,hall⟩
   ·have⟨j,hj⟩:=Classical.not_forall.1 hall
    have⟨hj1,hj2⟩:=Classical.not_imp.1 hj;exact ih j hj1 (by omega) hj2
 obtain⟨k,hk,hne,hall⟩:=hex;have hstay:∀j,j≤k→AL M us j=M:=by
  intro j hj
  induction j with
  |zero=>rfl
  |succ j ih=>
   show CW (AL M us j) _ _=M
   rw[ih (by omega)];have e:=hall j (by omega);have hmv:=h.mvs.moves _ (Cz (l:=us) (i:=j) (by omega));exact Yi hM.asc (fun e0=>hmv ⟨by rw[e,e0],e0⟩) (hid j (by omega))
 have hbefore:An (BJ M objs us force) k=0:=Bd fun j hj=>by
  unfold BJ;rw[hstay j (by omega)];exact Is.2 ⟨by rw[hid j (by omega),hall j hj],(hz j (by omega)).2⟩
 have hat:BJ M objs us force k=4:=by
  unfold BJ Cy;rw[hstay k (Nat.le_refl _),if_pos (by rw[hid k hk];exact fun e=>hne e.symm)]
 have hscan:An (BJ M objs us force) us.length=4:=by
  rw[BX hbefore (by rw[hat];decide) hk,hat]
 unfold CQ Ce;rw[if_neg (by rw[Bz.2 ⟨(Bz.1 h.refs).1,hM⟩];simp),if_neg (by simp[Jp.2 h.mvs]),hscan];rfl
variable [Ghost]
theorem Nj {a b:ByteArray} (h:a.data.toList=b.data.toList):a=b:=by
 cases a;cases b;congr;exact Array.toList_inj.1 h
def Bl (n:Int):ByteArray:=⟨(Lib.decDigits n.toNat).toArray⟩
def YA:ByteArray:=⟨#[32]⟩
def Fs:ByteArray:=⟨#[59]⟩
def JE (u:Mv):ByteArray:=⟨(Lib.join [u.name.data.toList,(Bl u.old).data.toList,(Bl u.new).data.toList] [32]).toArray⟩++Fs
def Fa (u:Mv):ByteArray:=((((u.name++YA)++Bl u.old)++YA)++Bl u.new)++Fs
theorem Si (u:Mv):JE u=Fa u:=by
 apply Nj
 unfold JE Fa YA Fs;simp[Lib.join_cons,Lib.joinTail]
def Jj:List Mv→ByteArray→ByteArray
 |[],s=>s
 |u::l,s=>Jj l (s++JE u)
theorem Kw (l:List Mv) (u:Mv):∀s,Jj (l++[u]) s=Jj l s++JE u:=by
 induction l with
 |nil=>intro s;rfl
 |cons v l ih=>intro s;exact ih _
def IJ (l:List Mv) (s:ByteArray):Nat→Int
 |0=>-1
 |k+1=>if Au s (mv l k).name=true∧(IJ l s k<0∨Au (mv l k).name (mv l (IJ l s k).toNat).name=true) then(k:Int) else IJ l s k
theorem JC (l:List Mv) (s:ByteArray):∀k,(IJ l s k=-1∧∀i,i<k→Au s (mv l i).name=false)∨
  ∃a:Nat,a<k∧IJ l s k=(a:Int)∧Au s (mv l a).name=true∧∀i,i<k→Au s (mv l i).name=true→Au (mv l i).name (mv l a).name=false
 |0=>.inl ⟨rfl,fun i hi=>absurd hi (by omega)⟩
 | k+1=>by
  unfold IJ;rcases JC l s k with⟨e,h⟩|⟨a,ha,e,h1,h2⟩
  ·cases hs:Au s (mv l k).name
   ·rw[if_neg (by simp)]
    refine .inl ⟨e,fun i hi=>?_⟩;by_cases hk:i=k
    ·subst hk;exact hs
    ·exact h i (by omega)
   ·rw[if_pos ⟨rfl,.inl (by omega)⟩]
    refine .inr ⟨k,by omega,rfl,hs,fun i hi h3=>?_⟩;by_cases hk:i=k
    ·subst hk;exact BY _
    ·rw[h i (by omega)] at h3;cases h3
  ·rw[e]
   simp only[Int.toNat_natCast];cases hs:Au s (mv l k).name
   ·rw[if_neg (by simp)]
    refine .inr ⟨a,by omega,rfl,h1,fun i hi h3=>?_⟩;by_cases hk:i=k
    ·subst hk;rw[hs] at h3;cases h3
    ·exact h2 i (by omega) h3
   ·by_cases hl:Au (mv l k).name (mv l a).name=true
    case neg=>
     rw[if_neg (fun h=>h.2.elim (fun h=>by omega) hl)];refine .inr ⟨a,by omega,rfl,h1,fun i hi h3=>?_⟩;by_cases hk:i=k
     ·subst hk;simpa using hl
     ·exact h2 i (by omega) h3
    rw[if_pos ⟨rfl,.inr hl⟩];refine .inr ⟨k,by omega,rfl,hs,fun i hi h3=>?_⟩;by_cases hk:i=k
    ·subst hk;exact BY _
    ·cases h4:Au (mv l i).name (mv l k).name
     ·rfl
     ·have:=DM h4 hl
      rw[h2 i (by omega) h3] at this;cases this
def Gw (l:List Mv) (s:ByteArray):Nat:=(IJ l s l.length).toNat
def Cg (l:List Mv):Nat→ByteArray×ByteArray
 |0=>(ByteArray.empty,ByteArray.empty)
 |n+1=>((Cg l n).1++Fa (mv l (Gw l (Cg l n).2)),(mv l (Gw l (Cg l n).2)).name)
def Fh (l:List Mv):ByteArray:=(Cg l l.length).1
def LE (d:List Mv):Prop:=d.Pairwise fun a b=>Au a.name b.name=true
theorem NF {s:ByteArray} (h:s≠ByteArray.empty):Au ByteArray.empty s=true:=by
 unfold Au;rw[ByteArray.toList_eq,ByteArray.toList_eq];cases hs:s.data.toList with
 |nil=>exact absurd (Nj hs) h
 |cons a r=>rfl
theorem Jz {l d:List Mv} (hp:d.Perm l) (hd:LE d) (hn:∀u∈l,u.name≠ByteArray.empty):∀n,n≤l.length→Cg l n=(Jj (d.take n) ByteArray.empty,if n=0 then ByteArray.empty else(mv d (n-1)).name)
 |0,_=>rfl
 | n+1,h=>by
  have ih:=Jz hp hd hn n (by omega);have hl:=hp.length_eq;have hnd:n<d.length:=by omega
  have hR:=List.pairwise_iff_getElem.1 hd;have hlt:∀i j,i<j→j<d.length→Au (mv d i).name (mv d j).name=true:=fun i j hij hj=>by
   have:=hR i j (by omega) hj hij
   rwa [←Da,←Da] at this
  have hs:∀j,n≤j→j<d.length→Au (Cg l n).2 (mv d j).name=true:=fun j hj hjd=>by
   rw[ih];by_cases h0:n=0
   ·simp only[if_pos h0];exact NF (hn _ (hp.mem_iff.1 (Cz hjd)))
   ·simp only[if_neg h0];exact hlt _ _ (by omega) hjd
  have hs':∀j,j<n→Au (Cg l n).2 (mv d j).name=false:=fun j hj=>by
   rw[ih];simp only[if_neg (show¬n=0 by omega)];by_cases e:j=n-1
   ·rw[e];exact BY _
   ·exact Fg (hlt j (n-1) (by omega) (by omega))
  have hpick:mv l (Gw l (Cg l n).2)=mv d n:=by
   generalize (Cg l n).2=s at hs hs';obtain⟨i,hi,e⟩:=FN (hp.mem_iff.1 (Cz hnd));rcases JC l s l.length with⟨_,h2⟩|⟨a,ha,ea,h1,h2⟩
   ·have:=h2 i hi;rw[e,hs n (Nat.le_refl _) hnd] at this;cases this
   ·unfold Gw
    rw[ea,Int.toNat_natCast];obtain⟨j,hj,ej⟩:=FN (hp.mem_iff.2 (Cz ha));rw[←ej] at h1 h2⊢;have h3:=h2 i hi (by rw[e];exact hs n (Nat.le_refl _) hnd);rw[e] at h3;rcases Nat.lt_or_ge j n with hjn|hjn
    ·rw[hs' j hjn] at h1;cases h1
    ·rcases Nat.lt_or_ge n j with hnj|hnj
     ·rw[hlt n j hnj hj] at h3;cases h3
     ·rw[show j=n by omega]
  show(_++Fa (mv l (Gw l (Cg l n).2)),(mv l (Gw l (Cg l n).2)).name)=_
  rw[hpick,ih];simp only[if_neg (show¬n+1=0 by omega),Nat.add_sub_cancel];rw[List.take_succ_eq_append_getElem hnd,Kw,Si,Da hnd]
theorem VX {l d:List Mv} (hp:d.Perm l) (hd:LE d) (hn:∀u∈l,u.name≠ByteArray.empty):Fh l=Jj d ByteArray.empty:=by
 unfold Fh;rw[Jz hp hd hn _ (Nat.le_refl _),←hp.length_eq,List.take_length]
theorem St {d:List Mv} (h:d.Pairwise fun a b=>Au b.name a.name=false) (hn:d.Pairwise fun a b=>a.name≠b.name):LE d:=by
 unfold LE;refine(h.and hn).imp fun {a b} hab=>?_
 cases e:Au a.name b.name
 ·exact absurd (FG e hab.1) hab.2
 ·rfl
theorem Kb {s:ByteArray} (h:AR s=0):s≠ByteArray.empty:=by
 rintro rfl;exact absurd h (by decide+kernel)
theorem VY {l d:List Mv} (hp:d.Perm l) (hd:LE d) (hn:∀u∈l,u.name≠ByteArray.empty) {n:Nat} (h:n<l.length):∃i,i<l.length∧Au (Cg l n).2 (mv l i).name=true:=by
 have hnd:n<d.length:=by have:=hp.length_eq;omega
 obtain⟨i,hi,e⟩:=FN (hp.mem_iff.1 (Cz hnd));refine⟨i,hi,?_⟩;rw[e,Jz hp hd hn n (by omega)];by_cases h0:n=0
 ·simp only[if_pos h0];exact NF (hn _ (hp.mem_iff.1 (Cz hnd)))
 ·simp only[if_neg h0]
  have:=List.pairwise_iff_getElem.1 hd (n-1) n (by omega) hnd (by omega)
  rwa [←Da,←Da] at this
theorem TA {l:List Mv} (h:EJ l):∃d:List Mv,d.Perm l∧LE d:=by
 have hd1:(l.mergeSort fun a b=>!Au b.name a.name).Perm l:=List.mergeSort_perm _ _;have hd2:(l.mergeSort fun a b=>!Au b.name a.name).Pairwise fun a b=>Au b.name a.name=false:=by
  have:=List.pairwise_mergeSort (le:=fun a b:Mv=>!Au b.name a.name) (fun a b c h1 h2=>by
   simp only[Bool.not_eq_true'] at h1 h2⊢;exact Lv h2 h1) (fun a b=>by
   cases e:Au b.name a.name
   ·simp
   ·simp[Fg e]) l
  exact this.imp fun {a b} hab=>by simpa using hab
 exact⟨_,hd1,St hd2 ((h.perm hd1).once)⟩
theorem Ol {l:List Mv} (h:EJ l) {n:Nat} (hn:n<l.length):∃a:Nat,a<l.length∧IJ l (Cg l n).2 l.length=(a:Int)∧Cg l (n+1)=((Cg l n).1++Fa (mv l a),(mv l a).name):=by
 obtain⟨d,hp,hd⟩:=TA h;obtain⟨i,hi,hs⟩:=VY hp hd (fun u hu=>Kb (h.name u hu)) hn;rcases JC l (Cg l n).2 l.length with⟨_,h2⟩|⟨a,ha,ea,_,_⟩
 ·rw[h2 i hi] at hs;cases hs
 ·refine⟨a,ha,ea,?_⟩
  have e:Gw l (Cg l n).2=a:=by unfold Gw;rw[ea,Int.toNat_natCast]
  show(_++Fa (mv l (Gw l (Cg l n).2)),(mv l (Gw l (Cg l n).2)).name)=_
  rw[e]
variable [Ghost]
def IC (s:ByteArray):Bool:=[121,101,115].isPrefixOf s.data.toList
theorem PZ:IC ByteArray.empty=false:=by decide+kernel
theorem Yy {s:ByteArray} (h:IC s=true):3≤s.size:=by
 unfold IC at h;have:=(List.isPrefixOf_iff_prefix.1 h).length_le;simpa using this
def DW:List (ByteArray×Int)→ByteArray→List (ByteArray×Int)
 |[],_=>[]
 |(v,n)::r,s=>if v=s∨n=0 then(s,n+1)::r else(v,n)::DW r s
def YK:List (ByteArray×Int):=[(ByteArray.empty,0),(ByteArray.empty,0),(ByteArray.empty,0)]
def GA (b:List (ByteArray×Int)) (s:ByteArray):List (ByteArray×Int):=if s=ByteArray.empty then b else DW b s
def Pt (l:List ByteArray):List (ByteArray×Int):=l.foldl GA YK
def EG (x:ByteArray×Int):Bool:=decide (3<2*x.2) && IC x.1
def told (o:Option ByteArray):ByteArray×Bool:=match o with|some s=>(s,true)|none=>(ByteArray.empty,false)
def CS (l:List ByteArray):ByteArray×Bool:=if l.length≠3 then(ByteArray.empty,false) else told (((Pt l).find? EG).map (·.1))
def MR (l:List ByteArray) (s:ByteArray):Nat:=l.countP (fun x=>decide (x=s))
def FY (l:List ByteArray) (s:ByteArray):Bool:=decide (2≤MR l s) && IC s
def CZ (l:List ByteArray):ByteArray×Bool:=if l.length≠3 then(ByteArray.empty,false) else told (l.find? (FY l))
theorem ZH {α:Type} {l:List α} (h:l.length=3):∃a b c,l=[a,b,c]:=by
 match l,h with
 |[a,b,c],_=>exact⟨a,b,c,rfl⟩
theorem LV (a b:ByteArray):a=b∨(a≠b∧b≠a):=by
 by_cases h:a=b
 ·exact .inl h
 ·exact .inr ⟨h,fun e=>h e.symm⟩
theorem OK (l:List ByteArray):CS l=CZ l:=by
 unfold CS CZ;by_cases h:l.length=3
 ·rw[if_neg (by simp[h]),if_neg (by simp[h])]
  obtain⟨a,b,c,rfl⟩:=ZH h;clear h;congr 1
  have he:=PZ;simp only[Pt,List.foldl_cons,List.foldl_nil,GA,YK];generalize ByteArray.empty=e at*;have Hab:=LV a b;have Hac:=LV a c;have Hbc:=LV b c;have hab2:∀x y:Bool,(x=true)∨(x=false):=fun x y=>by cases x<;>simp
  rcases LV e a with rfl|⟨ha,ha'⟩<;>rcases LV e b with rfl|⟨hb,hb'⟩<;>rcases LV e c with rfl|⟨hc,hc'⟩
  all_goals rcases Hab with hab|⟨h1,h1'⟩
  all_goals rcases Hac with hac|⟨h2,h2'⟩
  all_goals rcases Hbc with hbc|⟨h3,h3'⟩
  all_goals try subst hab
  all_goals try subst hac
  all_goals try subst hbc
  all_goals first
   |contradiction
   |(simp_all [DW,List.find?,MR,FY,EG,List.countP_cons];done)
   |(simp_all [DW,List.find?,MR,FY,EG,List.countP_cons];repeat' split;all_goals simp_all)
 ·rw[if_pos h,if_pos h]
theorem UP {l:List ByteArray} {x t:ByteArray} (h:x≠t):MR l x+MR l t≤l.length:=by
 unfold MR
 induction l with
 |nil=>simp
 | cons a l ih=>
  rw[List.countP_cons,List.countP_cons,List.length_cons];by_cases h1:a=x
  ·subst h1;simp[h];omega
  ·by_cases h2:a=t
   ·subst h2;simp[h1];omega
   ·simp[h1,h2];omega
theorem VW {l:List ByteArray} {t:ByteArray}:CZ l=(t,true)↔l.length=3∧2≤MR l t∧IC t=true:=by
 unfold CZ;by_cases h:l.length=3
 ·rw[if_neg (by simp[h])]
  constructor
  ·intro e
   cases hf:l.find? (FY l) with
   |none=>rw[hf] at e;cases e
   |some x=>
    rw[hf] at e;have hx:=List.find?_some hf;cases e;unfold FY at hx;simpa[h] using hx
  ·rintro⟨_,h2,h3⟩
   have ht:t∈l:=by
    have:0<l.countP (fun x=>decide (x=t)):=by unfold MR at h2;omega
    obtain⟨x,hx,e⟩:=List.countP_pos_iff.1 this;simp at e;rw[←e];exact hx
   cases hf:l.find? (FY l) with
   |none=>
    have:=List.find?_eq_none.1 hf t ht;unfold FY at this;simp[h2,h3] at this
   | some x=>
    have hx:=List.find?_some hf;unfold FY at hx;simp only[Bool.and_eq_true,decide_eq_true_eq] at hx;by_cases e:x=t
    ·rw[e];rfl
    ·have:=UP (l:=l) e
     omega
 ·rw[if_pos h]
  constructor
  ·intro e;cases e
  ·intro e;exact absurd e.1 h
variable [Ghost]
def CP (e:Int):Prop:=0≤e∧e≤9
theorem Cc {c:Prop} [Decidable c] {a b:Int} (ha:CP a) (hb:CP b):CP (if c then a else b):=by
 by_cases h:c
 ·rw[if_pos h];exact ha
 ·rw[if_neg h];exact hb
theorem DI {f:Nat→Int} (h:∀k,CP (f k)):∀n,CP (An f n)
 |0=>⟨(by decide:(0:Int)≤0),(by decide:(0:Int)≤9)⟩
 |n+1=>by unfold An;exact Cc (h n) (DI h n)
theorem Xd (o:Obj) (i:Nat):CP (Cl o i):=by unfold Cl;repeat' (first|exact⟨by decide,by decide⟩|refine Cc ?_ ?_)
theorem UV (o:Obj):CP (Cv o):=by
 have:=DI (Xd o) o.links.length;unfold Cv;repeat' (first|exact this|exact⟨by decide,by decide⟩|refine Cc ?_ ?_)
theorem Us (o:Obj):CP (Aw o):=by
 have:=UV o;unfold Aw;repeat' (first|exact this|exact⟨by decide,by decide⟩|refine Cc ?_ ?_)
theorem Ru (o:Obj) (k:Nat) (kind:Int):CP (Bk o k kind):=by unfold Bk;repeat' (first|exact⟨by decide,by decide⟩|refine Cc ?_ ?_)
theorem Te (l:List Obj) (i:Nat):CP (Co l i):=by
 have h1:=Us (obj l i);have h2:=DI (fun k=>Ru (obj l i) k (AC (l.take i) (Ct (obj l i).links k))) (obj l i).links.length;unfold Co;repeat' (first|exact h1|exact h2|exact⟨by decide,by decide⟩|refine Cc ?_ ?_)
theorem LS (l:List Obj):CP (Aj l):=by
 have:=DI (Te l) l.length;unfold Aj;repeat' (first|exact this|exact⟨by decide,by decide⟩|refine Cc ?_ ?_)
theorem Rv (s:ByteArray):CP (AR s):=by unfold AR;repeat' (first|exact⟨by decide,by decide⟩|refine Cc ?_ ?_)
theorem NC (l:List Obj) (id:Int):CP (AH l id):=by unfold AH;repeat' (first|exact⟨by decide,by decide⟩|refine Cc ?_ ?_)
theorem YR (l:List Rf) (objs:List Obj) (i:Nat):CP (BW l objs i):=by
 have h1:=Rv (rf l i).name;have h2:=NC objs (rf l i).id;unfold BW;repeat' (first|exact h1|exact h2|exact⟨by decide,by decide⟩|refine Cc ?_ ?_)
theorem Xf (l:List Rf) (i k:Nat):CP (Ez l i k):=by unfold Ez;repeat' (first|exact⟨by decide,by decide⟩|refine Cc ?_ ?_)
theorem PB (l:List Rf) (objs:List Obj):CP (AE l objs):=by
 have h1:=DI (YR l objs) l.length;have h2:=DI (fun i=>DI (Xf l i) l.length) l.length;unfold AE;repeat' (first|exact h1|exact h2|exact⟨by decide,by decide⟩|refine Cc ?_ ?_)
theorem Xg (l:List Rf) (objs:List Obj):CP (Ap l objs):=by
 unfold Ap;repeat' (first|exact LS objs|exact PB l objs|exact⟨by decide,by decide⟩|refine Cc ?_ ?_)
theorem ZO (l:List Mv) (i:Nat):CP (Eb l i):=by
 have h1:=Rv (mv l i).name;unfold Eb;repeat' (first|exact h1|exact⟨by decide,by decide⟩|refine Cc ?_ ?_)
theorem YQ (l:List Mv):CP (AP l):=by
 have:=DI (ZO l) l.length;unfold AP;repeat' (first|exact this|exact⟨by decide,by decide⟩|refine Cc ?_ ?_)
theorem Xe (l:List Rf) (objs:List Obj) (u:Mv) (f:Bool):CP (Cy l objs u f):=by
 have:=NC objs u.new;unfold Cy;repeat' (first|exact this|exact⟨by decide,by decide⟩|refine Cc ?_ ?_)
theorem UW (l:List Rf) (objs:List Obj) (us:List Mv) (f:Bool):CP (Ce l objs us f):=by
 unfold Ce;repeat' (first|exact PB _ _|exact DI (fun k=>Xe _ _ _ _) _|exact⟨by decide,by decide⟩|refine Cc ?_ ?_)
theorem UT (l:List Rf) (objs:List Obj) (us:List Mv) (f:Bool):CP (CQ l objs us f):=by
 unfold CQ;repeat' (first|exact Xg _ _|exact YQ _|exact UW _ _ _ _|exact⟨by decide,by decide⟩|refine Cc ?_ ?_)
theorem UU (l:List Obj) (o:Obj):CP (GO l o):=by unfold GO;repeat' (first|exact⟨by decide,by decide⟩|refine Cc ?_ ?_)
theorem Xh (l more:List Obj):CP (Cd l more):=by
 have h1:=DI (fun k=>UU (Aq l more k) (obj more k)) more.length;have h2:=LS (Aq l more more.length);unfold Cd;repeat' (first|exact h1|exact h2|exact⟨by decide,by decide⟩|refine Cc ?_ ?_)
theorem YP (l more:List Obj):CP (DE l more):=by
 have h1:=LS l;have h2:=DI (fun k=>Us (obj more k)) more.length;have h3:=Xh l more;unfold DE;repeat' (first|exact h1|exact h2|exact h3|exact⟨by decide,by decide⟩|refine Cc ?_ ?_)
theorem Ig (r:Am) (p:BM):CP (Bv r p):=by
 unfold Bv;repeat' (first|exact YP _ _|exact UT _ _ _ _|exact⟨by decide,by decide⟩|refine Cc ?_ ?_)
def aP:ByteArray:=⟨#[110,111,32]⟩
def OP:ByteArray:=⟨#[121,101,115,32]⟩
def CC (r:Am) (p:BM):ByteArray:=if Bv r p≠0 then aP++Bl (Bv r p) else OP++Bl r.gen++YA++Fh p.updates
variable [Ghost]
theorem PA {n:Int} (h0:0≤n) (h:n<10):Bl n=⟨#[UInt8.ofNat (48+n.toNat)]⟩:=by
 unfold Bl;rw[Lib.decDigits,dif_pos (by omega)]
theorem Na {n:Int} (h:10≤n):Bl n=Bl (n / 10)++Bl (n % 10):=by
 apply Nj
 unfold Bl
 conv=>lhs;rw[Lib.decDigits,dif_neg (by omega)]
 have e1:(n / 10).toNat=n.toNat / 10:=by omega
 have e2:(n % 10).toNat=n.toNat % 10:=by omega
 rw[e1,e2]
 conv=>rhs;rw[show Lib.decDigits (n.toNat % 10)=[UInt8.ofNat (48+n.toNat % 10)] by rw[Lib.decDigits,dif_pos (by omega)]]
 simp
theorem DY {n:Int} (h0:0≤n) (h:n<1000):(Bl n).size≤12:=by
 have h1:∀n:Int,0≤n→n<10→(Bl n).size=1:=fun n h0 h=>by rw[PA h0 h];rfl
 have h2:∀n:Int,0≤n→n<100→(Bl n).size≤2:=fun n h0 h=>by
  by_cases h3:n<10
  ·rw[h1 n h0 h3];omega
  ·rw[Na (by omega),ByteArray.size_append,h1 (n / 10) (by omega) (by omega),h1 (n % 10) (by omega) (by omega)];omega
 by_cases h3:n<100
 ·have:=h2 n h0 h3;omega
 ·rw[Na (by omega),ByteArray.size_append,h1 (n % 10) (by omega) (by omega)]
  have:=h2 (n / 10) (by omega) (by omega);omega
theorem Gb (n:Int) (h0:0≤n) (h:n<10) (w:World):Calls Tryz.prog 82 #[.int .i64 n] w fun e w'=>e=.returned (.string (Bl n))∧w=w':=by
 have hd:=PA h0 h;have h10:n=0∨n=1∨n=2∨n=3∨n=4∨n=5∨n=6∨n=7∨n=8∨n=9:=by omega
 have HD:=zh hd;clear hd;rcases h10 with rfl|rfl|rfl|rfl|rfl|rfl|rfl|rfl|rfl|rfl
 all_goals
  clear h0 h
  go_enter Tryz.func82, Tryz.ntmps82
  go_wp2_with fail;go_ret;exact⟨by rw[HD.out];rfl,rfl⟩
theorem Mq (n:Int) (h0:10≤n) (h:n<100) (w:World):Calls Tryz.prog 82 #[.int .i64 n] w fun e w'=>e=.returned (.string (Bl n))∧w=w':=by
 have HD:=zh (Na h0);have hd:decide (n<10)=false:=decide_eq_false (by omega);have hn:0≤n:=by omega
 have h1:=zh (Gb (n / 10) (by omega) (by omega) w);have h2:=zh (Gb (n % 10) (by omega) (by omega) w);have hs1:=DY (n:=n / 10) (by omega) (by omega);have hs2:=DY (n:=n % 10) (by omega) (by omega);have hs3:¬9223372036854775807<(Bl (n / 10)).size+(Bl (n % 10)).size:=by omega
 go_enter Tryz.func82, Tryz.ntmps82
 go_wp2_with fail;refine h1.out.mono ?_;rintro e w' ⟨rfl,rfl⟩;go_wp2_with fail;refine h2.out.mono ?_;rintro e w' ⟨rfl,rfl⟩;go_wp2_with fail;go_ret;exact⟨by rw[HD.out];rfl,rfl⟩
theorem Rw (n:Int) (h0:100≤n) (h:n<1000) (w:World):Calls Tryz.prog 82 #[.int .i64 n] w fun e w'=>e=.returned (.string (Bl n))∧w=w':=by
 have HD:=zh (Na (n:=n) (by omega));have hd:decide (n<10)=false:=decide_eq_false (by omega);have hn:0≤n:=by omega
 have h1:=zh (Mq (n / 10) (by omega) (by omega) w);have h2:=zh (Gb (n % 10) (by omega) (by omega) w);have hs1:=DY (n:=n / 10) (by omega) (by omega);have hs2:=DY (n:=n % 10) (by omega) (by omega);have hs3:¬9223372036854775807<(Bl (n / 10)).size+(Bl (n % 10)).size:=by omega
 go_enter Tryz.func82, Tryz.ntmps82
 go_wp2_with fail;refine h1.out.mono ?_;rintro e w' ⟨rfl,rfl⟩;go_wp2_with fail;refine h2.out.mono ?_;rintro e w' ⟨rfl,rfl⟩;go_wp2_with fail;go_ret;exact⟨by rw[HD.out];rfl,rfl⟩
theorem FI (n:Int) (h0:0≤n) (h:n<1000) (w:World):Calls Tryz.prog 82 #[.int .i64 n] w fun e w'=>e=.returned (.string (Bl n))∧w=w':=by
 by_cases h1:n<10
 ·exact Gb n h0 h1 w
 ·by_cases h2:n<100
  ·exact Mq n (by omega) h2 w
  ·exact Rw n (by omega) h w
theorem GQ {s:ByteArray} (h:AR s=0):s.size≤12:=by
 unfold AR at h;split at h
 ·cases h
 ·omega
theorem Lx {u:Mv} (hn:u.name.size≤12) (h1:0≤u.old∧u.old≤99) (h2:0≤u.new∧u.new≤99):(Fa u).size≤39:=by
 unfold Fa YA Fs;have e1:=DY h1.1 (by omega:u.old<1000);have e2:=DY h2.1 (by omega:u.new<1000);simp only[ByteArray.size_append];show _+1+_+1+_+1≤39
 omega
theorem Mh {l:List Mv} (h:EJ l):∀k,k≤l.length→(Cg l k).1.size≤39*k
 |0,_=>by show ByteArray.size ByteArray.empty≤_;simp
 |k+1,hk=>by
  obtain⟨a,ha,_,e⟩:=Ol h (n:=k) (by omega);have ih:=Mh h k (by omega);have hm:=Cz ha;have:=Lx (GQ (h.name _ hm)) (h.old _ hm) (h.new _ hm);rw[e];show(_++_:ByteArray).size≤_
  rw[ByteArray.size_append];omega
theorem TY (l:List Mv) (v:Value) (S:Nat→Prop) (w:World) (h:AJ S w v l) (hok:EJ l):
  Calls Tryz.prog 83 #[v] w fun e w'=>e=.returned (.string (Fh l))∧Below w.heap.size w w':=by
 obtain⟨a,n,cap,HN,rfl,h1,h2,h3,h4⟩:=h.open;have Hn:=zh HN.out;have HT:=zh (show Fh l=(Cg l n).1 by rw[Hn.out];rfl);have hP:∀k,k<n→∃a:Nat,a<n∧IJ l (Cg l k).2 n=(a:Int)∧Cg l (k+1)=((Cg l k).1++Fa (mv l a),(mv l a).name):=fun k hk=>by
  rw[Hn.out] at hk⊢;exact Ol hok hk
 have HP:=zh hP;have HNu:=zh (fun k (hk:k<n)=>show(0≤(mv l k).old∧(mv l k).old≤99)∧(0≤(mv l k).new∧(mv l k).new≤99) by
  rw[Hn.out] at hk;exact⟨hok.old _ (Cz hk),hok.new _ (Cz hk)⟩)
 have hn4:n≤4:=by rw[Hn.out];exact hok.many
 have HS:=zh (fun s k=>JC l s k);have HZs:=zh (fun k (hk:k≤n)=>Mh hok k (by rw[←Hn.out];exact hk));have HZn:=zh (fun k (hk:k<n)=>GQ (hok.name _ (Cz (l:=l) (i:=k) (by rw[←Hn.out];exact hk))));have HA:=zh (fun s k=>show IJ l s (k+1)=if Au s (mv l k).name=true∧(IJ l s k<0∨Au (mv l k).name (mv l (IJ l s k).toNat).name=true) then(k:Int) else IJ l s k from rfl);clear h hok hP HN;obtain⟨R,hR,hR1,_⟩:=Av w;have hRb:=hR.below;have hRd:=hR.drewN;have hRg:=BI hR
 go_enter Tryz.func83, Tryz.ntmps83
 go_wp2_with fail;go_loopw [3,4,5] (fun s3 s4 i wr=>∃(k:Nat) (s t:ByteArray),k≤n∧i=.int .i64 k∧s3=.string s∧s4=.string t∧Hid (Cg l k=(s,t))∧In R wr) (fun _ _ i _=>n-(intOf i).toNat)
 case atStart=>exact⟨0,_,_,by omega,rfl,rfl,rfl,rfl,hR1⟩
 obtain⟨k,s,t,hk,rfl,rfl,rfl,Hst,hRw⟩:=hrel;clear hR1;by_cases hlt:k<n
 case neg=>
  obtain rfl:k=n:=by omega
  have HB:=zh (hRb _ hRw);have HE:=zh (show Fh l=s by rw[HT.out,Hst.out]);go_wp2_with fail;go_ret;exact⟨by rw[HE.out];rfl,HB.out⟩
 obtain⟨pk,hpk,hat,hnext⟩:=HP.out k hlt;rw[Hst.out] at hat hnext;have Hat:=zh hat;have Hnext:=zh hnext;clear hat hnext;obtain⟨b,off,rfl,hb,k0,k1,k2⟩:=h4 (by omega);go_wp2_with fail;go_loopw [6,7] (fun a i wx=>∃(j:Nat) (z:Int),j≤n∧i=.int .i64 j∧a=.int .i64 z∧Hid (z=IJ l t j)∧In R wx) (fun _ i _=>n-(intOf i).toNat)
 case atStart=>exact⟨0, -1,by omega,rfl,rfl,rfl,hRw⟩
 obtain⟨j,z,hj,rfl,rfl,Hz,hRx⟩:=hrel;clear hRw;by_cases hjt:j<n
 case pos=>
  have x0:=fun x (hx:In R x)=>k0 j x hjt (hRb _ hx)
  have hi1:=zk j;have hi2:(j:Int)<(n:Int):=by omega
  have Haj:=zh (HA.out t j);rw[←Hz.out] at Haj;have hsp:=HS.out t j;rw[←Hz.out] at hsp;have Hs1:=zh (show Au t (mv l j).name=Op.bytesLess t.toList (mv l j).name.toList from rfl);cases q1:Op.bytesLess t.toList (mv l j).name.toList
  ·have HZ:=zh (show z=IJ l t (j+1) by rw[Haj.out,if_neg (by rw[Hs1.out,q1];simp)])
   clear hsp;cases r1:Op.bytesLess (mv l j).name.toList t.toList
   case' false=>have r2:(mv l j).name.toList=t.toList:=by rw[FG (a:=(mv l j).name) (b:=t) r1 q1]
   all_goals
    go_wp2_with fail;go_quiet (fail);have hR2:=hRd _ nq hRx;clear hRx k0 k1 k2 x0;generalize wr.drewN nq=w2 at*;go_wp2_with fail;go_roundw
    case rel=>exact⟨j+1,z,by omega,by go_num,rfl,HZ.out,hR2⟩
    case measure=>simp[intOf];omega
  ·have r1:Op.bytesLess (mv l j).name.toList t.toList=false:=Fg (a:=t) (b:=(mv l j).name) q1
   have r2:¬(mv l j).name.toList=t.toList:=fun e=>by
    rw[e,show Op.bytesLess t.toList t.toList=false from BY t] at q1;cases q1
   have r3:((mv l j).name.toList==t.toList)=false:=by simpa using r2
   rcases hsp with⟨e,_⟩|⟨a,ha,e,_⟩
   ·subst e
    have HZ:=zh (show(j:Int)=IJ l t (j+1) by rw[Haj.out,if_pos ⟨by rw[Hs1.out,q1],.inl (by omega)⟩]);go_wp2_with fail;refine wp_region_quiet_below (by kernel_rfl) (by kernel_rfl) ?_
    repeat (first|go_big_quiet_skip|quiet_step (fail))
    refine wpQuiet_nil ?_;intro _ hw';obtain⟨⟨dq,osq⟩,hw''⟩:=hw';subst hw'';have hR2:=hRg _ dq osq hRx;clear hRx k0 k1 k2 x0;generalize Go.Sort.grow (redrawn _ dq) osq=w2 at*;go_wp2_with fail;go_roundw
    case rel=>exact⟨j+1,j,by omega,by go_num,rfl,HZ.out,hR2⟩
    case measure=>simp[intOf];omega
   ·subst e
    have z0:=fun x (hx:In R x)=>k0 a x (by omega) (hRb _ hx)
    have hz1:=zk a;have hz2:(a:Int)<(n:Int):=by omega
    have hz3:decide ((a:Int)<0)=false:=decide_eq_false (by omega);have Hs2:=zh (show Au (mv l j).name (mv l a).name=Op.bytesLess (mv l j).name.toList (mv l a).name.toList from rfl);cases q2:Op.bytesLess (mv l j).name.toList (mv l a).name.toList
    ·have HZ:=zh (show(a:Int)=IJ l t (j+1) by rw[Haj.out,if_neg (by rw[Int.toNat_natCast,Hs2.out,q2];intro h;rcases h.2 with h|h;omega;cases h)])
     go_wp2_with fail;refine wp_region_quiet_below (by kernel_rfl) (by kernel_rfl) ?_
     repeat (first|go_big_quiet_skip|quiet_step (fail))
     refine wpQuiet_nil ?_;intro _ hw';obtain⟨⟨dq,osq⟩,hw''⟩:=hw';subst hw'';have hR2:=hRg _ dq osq hRx;clear hRx k0 k1 k2 x0 z0;generalize Go.Sort.grow (redrawn _ dq) osq=w2 at*;go_wp2_with fail;go_roundw
     case rel=>exact⟨j+1,a,by omega,by go_num,rfl,HZ.out,hR2⟩
     case measure=>simp[intOf];omega
    ·have HZ:=zh (show(j:Int)=IJ l t (j+1) by rw[Haj.out,if_pos ⟨by rw[Hs1.out,q1],.inr (by rw[Int.toNat_natCast,Hs2.out,q2])⟩])
     go_wp2_with fail;refine wp_region_quiet_below (by kernel_rfl) (by kernel_rfl) ?_
     repeat (first|go_big_quiet_skip|quiet_step (fail))
     refine wpQuiet_nil ?_;intro _ hw';obtain⟨⟨dq,osq⟩,hw''⟩:=hw';subst hw'';have hR2:=hRg _ dq osq hRx;clear hRx k0 k1 k2 x0 z0;generalize Go.Sort.grow (redrawn _ dq) osq=w2 at*;go_wp2_with fail;go_roundw
     case rel=>exact⟨j+1,j,by omega,by go_num,rfl,HZ.out,hR2⟩
     case measure=>simp[intOf];omega
 obtain rfl:j=n:=by omega
 have ez:=Hz.out.trans Hat.out;subst ez;have x0:=fun x (hx:In R x)=>k0 pk x hpk (hRb _ hx)
 have x1:=fun x (hx:In R x)=>k1 pk x hpk (hRb _ hx)
 have x2:=fun x (hx:In R x)=>k2 pk x hpk (hRb _ hx)
 have hi1:(0:Int)≤(pk:Int):=by omega
 have hi2:(pk:Int)<(j:Int):=by omega
 have hnu:=HNu.out pk hpk;have HD1:=zh (fun x=>FI (mv l pk).old hnu.1.1 (by omega) x);have HD2:=zh (fun x=>FI (mv l pk).new hnu.2.1 (by omega) x);have x00:=x0 _ hRx;have hs0:=HZs.out k (by omega);rw[Hst.out] at hs0;have hs1:=HZn.out pk hpk;have hs2:=DY hnu.1.1 (by omega:(mv l pk).old<1000);have hs3:=DY hnu.2.1 (by omega:(mv l pk).new<1000);simp only at hs0;have n1:¬9223372036854775807<(mv l pk).name.size+1:=by omega
 have n2:¬9223372036854775807<(mv l pk).name.size+1+(Bl (mv l pk).old).size:=by omega
 have n3:¬9223372036854775807<(mv l pk).name.size+1+(Bl (mv l pk).old).size+1:=by omega
 have n4:¬9223372036854775807<(mv l pk).name.size+1+(Bl (mv l pk).old).size+1+(Bl (mv l pk).new).size:=by omega
 have n5:¬9223372036854775807<(mv l pk).name.size+1+(Bl (mv l pk).old).size+1+(Bl (mv l pk).new).size+1:=by omega
 have n6:¬9223372036854775807<s.size+((mv l pk).name.size+1+(Bl (mv l pk).old).size+1+(Bl (mv l pk).new).size+1):=by omega
 clear hs0 hs1 hs2 hs3;clear hnu k0 k1 k2 h4;go_wp2_with fail;go_quiet ((first|(go_at_call 82;with_reducible exact BV (HD1.out _))|(go_at_call 82;with_reducible exact BV (HD2.out _))));have hR2:=hRd _ nq hRx;clear hRx x0 x1 x2 x00;generalize wr.drewN nq=w2 at*;have HF:=zh (show Cg l (k+1)=(s++Fa (mv l pk),(mv l pk).name) from Hnext.out);go_wp2_with fail;go_roundw
 case rel=>exact⟨k+1,_,_,by omega,by go_num,rfl,rfl,HF.out,hR2⟩
 case measure=>simp[intOf];omega
variable [Ghost]
instance instInhabitedMv:Inhabited Mv:=⟨aV⟩
theorem ZS {l:List Mv} {i:Nat} (h:i<l.length):l.toArray[i]! =mv l i:=by
 rw[getElem!_pos _ i (by simpa using h),Da h];simp
theorem own_holds {B g cap:Nat} {w:World} {l:List Mv} (h:GE B w (.slice (some ⟨g,0,none⟩) l.length cap) l):Go.Sort.HoldsK Bw 3 w g 0 l.toArray:=by
 intro j hj;have hj':j<l.length*3:=by simpa using hj
 have hc:=h.1.cellAt j (by simpa using hj');have hf:=h.1.frozenAt (g:=g) j;refine⟨?_,by simpa using hf⟩;have e:=CJ (cs:=fun i=>Bw (mv l i)) (sz:=3) (n:=l.length) (fun _ _=>rfl) (j / 3) (by omega) (j % 3) ((Bw (mv l (j / 3)))[j % 3]'(by show j % 3<3;omega)) (List.getElem?_eq_getElem _);rw[show j / 3*3+j % 3=j by omega] at e;rw[Nat.zero_add,hc,e,Go.Sort.get_flatK _ _ _ _ (by simpa using hj'),ZS (by omega)];rw[getElem!_pos (Bw (mv l (j / 3))) (j % 3) (by show j % 3<3;omega)];rfl
theorem Yl (w:World) (g m:Nat) (d:Array Mv) (os:Array Go.Obj):AK (fun b=>b=g) w (Go.Proofs.sortWorldK Bw 3 w g 0 m d os):=by
 refine⟨rfl,rfl,rfl,by simp[Go.Proofs.sortWorldK,Go.Sort.putRowK,Go.Sort.ahead],fun b hb hn=>?_⟩;show((Go.Sort.putRowK Bw 3 (Go.Sort.ahead w m) g 0 d).heap++os)[b]?=_
 rw[Array.getElem?_append_left (by simpa[Go.Sort.putRowK] using hb)];show(w.heap.modify g _)[b]?=_
 rw[Array.getElem?_modify,if_neg (fun e=>hn e.symm)]
theorem TE {B g cap m:Nat} {w:World} {l:List Mv} {d:Array Mv} {os:Array Go.Obj} (h:GE B w (.slice (some ⟨g,0,none⟩) l.length cap) l) (hl:l.length*32≤140737488351232) (hd:d.size=l.length) (hok:∀u∈d.toList,ZK u):
  AJ (fun b=>B≤b) (Go.Proofs.sortWorldK Bw 3 w g 0 m d os) (.slice (some ⟨g,0,none⟩) l.length cap) d.toList:=by
 have hb:=h.block (g:=g) rfl;have hH:=Go.Proofs.holdsK_sortWorldK_c Bw 3 w g 0 l.toArray d m os (own_holds h) hb.2 (by simpa using hd);have hlen:d.toList.length=l.length:=by simpa using hd
 obtain⟨⟨a,c,e,g1,g2,g3,_⟩,_⟩:=h.mvs hl;cases e;refine⟨⟨_,_,by rw[hlen],by rw[hlen];exact g1,g2,by rw[hlen];exact g3,fun hn=>⟨g,0,rfl,⟨hb.1,.inr ⟨World.block_lt_of_cell? _ _ (hH.cell (i:=0) (c:=0) (by omega) (by omega)).1,fun k hk=>by
  have h9:=(hH.cell (i:=k / 3) (c:=k % 3) (by rw[hlen] at hk;omega) (by omega)).2;have e9:0+k / 3*3+k % 3=0+k:=by omega
  rw[e9] at h9;exact h9⟩⟩,fun i hi j u hu=>?_⟩⟩,hok⟩
 have hj:j<3:=by
  rcases Nat.lt_or_ge j 3 with h|h
  ·exact h
  ·rw[List.getElem?_eq_none (by exact h)] at hu;cases hu
 rw[(hH.cell (i:=i) (c:=j) (by omega) hj).1];have e:d[i]! =mv d.toList i:=by rw[getElem!_pos d i (by omega),Da hi];simp
 rw[e,getElem!_pos _ j (by exact hj)];rw[List.getElem?_eq_getElem (by exact hj)] at hu;exact hu
theorem TW {l:List Mv} {d:Array Mv} (hp:Go.Sort.PermIn 0 l.toArray.size l.toArray d) (hs:Go.Sort.SortedIn (Go.Proofs.ltOf fun a b:Mv=>Jc a.name b.name) 0 l.toArray.size d):
  d.size=l.length∧d.toList.Perm l∧d.toList.Pairwise fun a b=>Au b.name a.name=false:=by
 have h1:d.size=l.length:=by simpa using hp.1
 refine⟨h1,?_,?_⟩
 ·have h2:=hp.2.2
  have e1:d.extract 0 l.toArray.size=d:=by rw[show l.toArray.size=d.size by simpa using h1.symm];simp
  rw[e1] at h2;simpa using h2
 ·rw[List.pairwise_iff_getElem]
  intro i j hi hj hij;have:=hs i j (Nat.zero_le _) hij (by simpa[h1] using hj);rw[getElem!_pos d j (by simpa using hj),getElem!_pos d i (by simpa using hi)] at this;unfold Go.Proofs.ltOf at this;cases e:Au d.toList[j].name d.toList[i].name
  ·rfl
  ·have h3:=(MZ _ _).2 e
   simp only[Array.getElem_toList] at h3;rw[decide_eq_true h3] at this;cases this
theorem bA:Go.Sort.SWO (Go.Proofs.ltOf fun a b:Mv=>Jc a.name b.name):=by
 have e:∀x y:Mv,Go.Proofs.ltOf (fun a b:Mv=>Jc a.name b.name) x y=Au x.name y.name:=fun x y=>by
  unfold Go.Proofs.ltOf;cases h:Au x.name y.name
  ·exact decide_eq_false fun h2=>by rw[(MZ _ _).1 h2] at h;cases h
  ·exact decide_eq_true ((MZ _ _).2 h)
 refine⟨fun x=>?_,fun x y z h1 h2=>?_,fun x y z h1 h2=>?_⟩
 ·rw[e];exact BY _
 ·rw[e] at*;exact Kv _ _ _ h1 h2
 ·rw[e] at*;exact Lv h1 h2
end Go.Proofs.YtgbnlmplkealdaaGreatDoor
namespace Go.Proofs
open Go.Shelf
def Tryz.sortU_ren:Go.Shelf.Ren:=⟨fun|6=>163|15=>174|14=>173|28=>192|29=>153|20=>184|21=>185|22=>186|23=>187|24=>188|25=>189|26=>190|27=>191|46=>202|47=>203|48=>204|49=>205|50=>206|57=>212|n=>n,fun|22=>26|24=>88|25=>190|3=>3|39=>184|0=>0|53=>182|55=>162|4=>4|46=>215|45=>214|50=>138|5=>5|9=>9|66=>229|70=>233|76=>240|77=>89|n=>n,fun|n=>n⟩
theorem Tryz.sortU:Go.Proofs.SlLaysF0.n6 Tryz.prog Tryz.sortU_ren:={
 mixed:=by kernel_rfl
 f6:=⟨Tryz.f163.name,by decide,Tryz.func163.trans (congrArg some (by kernel_rfl))⟩
 f14:=⟨Tryz.f173.name,by decide,Tryz.func173.trans (congrArg some (by kernel_rfl))⟩
 f15:=Tryz.func174.trans (congrArg some (by kernel_rfl))
 f20:=⟨Tryz.f184.name,by decide,Tryz.func184.trans (congrArg some (by kernel_rfl))⟩
 f21:=⟨Tryz.f185.name,by decide,Tryz.func185.trans (congrArg some (by kernel_rfl))⟩
 f22:=⟨Tryz.f186.name,by decide,Tryz.func186.trans (congrArg some (by kernel_rfl))⟩
 f23:=⟨Tryz.f187.name,by decide,Tryz.func187.trans (congrArg some (by kernel_rfl))⟩
 f24:=⟨Tryz.f188.name,by decide,Tryz.func188.trans (congrArg some (by kernel_rfl))⟩
 f25:=⟨Tryz.f189.name,by decide,Tryz.func189.trans (congrArg some (by kernel_rfl))⟩
 f26:=⟨Tryz.f190.name,by decide,Tryz.func190.trans (congrArg some (by kernel_rfl))⟩
 f27:=⟨Tryz.f191.name,by decide,Tryz.func191.trans (congrArg some (by kernel_rfl))⟩
 f28:=Tryz.func192.trans (congrArg some (by kernel_rfl))
 f29:=Tryz.func153.trans (congrArg some (by kernel_rfl))
 f46:=⟨Tryz.f202.name,by decide,Tryz.func202.trans (congrArg some (by kernel_rfl))⟩
 f47:=Tryz.func203.trans (congrArg some (by kernel_rfl))
 f48:=Tryz.func204.trans (congrArg some (by kernel_rfl))
 f49:=⟨Tryz.f205.name,by decide,Tryz.func205.trans (congrArg some (by kernel_rfl))⟩
 f50:=⟨Tryz.f206.name,by decide,Tryz.func206.trans (congrArg some (by kernel_rfl))⟩
 f57:=⟨Tryz.f212.name,by decide,Tryz.func212.trans (congrArg some (by kernel_rfl))⟩
 t0:=Tryz.underlying0
 a0:=Tryz.isAgg0
 z0:=Tryz.sizeOf0
 v0:=Tryz.zeroValue0
 t3:=Tryz.underlying3
 a3:=Tryz.isAgg3
 z3:=Tryz.sizeOf3
 v3:=Tryz.zeroValue3
 t4:=Tryz.underlying4
 a4:=Tryz.isAgg4
 z4:=Tryz.sizeOf4
 v4:=Tryz.zeroValue4
 t5:=Tryz.underlying5
 a5:=Tryz.isAgg5
 z5:=Tryz.sizeOf5
 v5:=Tryz.zeroValue5
 t9:=Tryz.underlying9
 a9:=Tryz.isAgg9
 z9:=Tryz.sizeOf9
 v9:=Tryz.zeroValue9
 t22:=Tryz.underlying26
 a22:=Tryz.isAgg26
 z22:=Tryz.sizeOf26
 v22:=Tryz.zeroValue26
 t25:=Tryz.underlying190
 a25:=Tryz.isAgg190
 z25:=Tryz.sizeOf190
 v25:=Tryz.zeroValue190
 t39:=Tryz.underlying184
 a39:=Tryz.isAgg184
 z39:=Tryz.sizeOf184
 v39:=Tryz.zeroValue184
 t45:=Tryz.underlying214
 a45:=Tryz.isAgg214
 z45:=Tryz.sizeOf214
 v45:=Tryz.zeroValue214
 t46:=Tryz.underlying215
 a46:=Tryz.isAgg215
 z46:=Tryz.sizeOf215
 v46:=Tryz.zeroValue215
 t50:=Tryz.underlying138
 a50:=Tryz.isAgg138
 z50:=Tryz.sizeOf138
 v50:=Tryz.zeroValue138
 t53:=Tryz.underlying182
 a53:=Tryz.isAgg182
 z53:=Tryz.sizeOf182
 v53:=Tryz.zeroValue182
 t55:=Tryz.underlying162
 a55:=Tryz.isAgg162
 z55:=Tryz.sizeOf162
 v55:=Tryz.zeroValue162
 t66:=Tryz.underlying229
 a66:=Tryz.isAgg229
 z66:=Tryz.sizeOf229
 v66:=Tryz.zeroValue229
 t70:=Tryz.underlying233
 a70:=Tryz.isAgg233
 z70:=Tryz.sizeOf233
 v70:=Tryz.zeroValue233
 t76:=Tryz.underlying240
 a76:=Tryz.isAgg240
 z76:=Tryz.sizeOf240
 v76:=Tryz.zeroValue240
 t77:=Tryz.underlying89
 a77:=Tryz.isAgg89
 z77:=Tryz.sizeOf89
 v77:=Tryz.zeroValue89}
end Go.Proofs
