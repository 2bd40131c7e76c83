
/- The plain law of updates: what they read as, what is wrong with them, what they make of refs. No program here. -/
import Derived.Test.YtgbnlmplkealdaaGreatDoorC5
set_option linter.all false
namespace Go.Proofs.YtgbnlmplkealdaaGreatDoor
open Go.RowKit
variable [Ghost]
structure Mv where
 name:ByteArray
 old:Int
 new:Int
def aV:Mv:=⟨ByteArray.empty,0,0⟩
def mv (l:List Mv) (i:Nat):Mv:=at_ aV l i
theorem Da {l:List Mv} {i:Nat} (h:i<l.length):mv l i=l[i]:=Ni h
theorem Cz {l:List Mv} {i:Nat} (h:i<l.length):mv l i∈l:=Ko h
theorem QI {l:List Rf} {i:Nat} (h:i<l.length):rf l i∈l:=Ko h
def Bw (u:Mv):List Value:=[.string u.name,.int .i64 u.old,.int .i64 u.new]
def AJ (S:Nat→Prop) (w:World) (v:Value) (l:List Mv):Prop:=
 Sl S w v 3 32 l.length (fun i=>Bw (mv l i))∧∀u∈l,Dy u.old∧Dy u.new∧u.name.size≤140737488351232
theorem AJ.below {S:Nat→Prop} {w w':World} {v:Value} {l:List Mv} (h:AJ S w v l) (hb:Below w.heap.size w w'):AJ S w' v l:=⟨h.1.below hb,h.2⟩
theorem AJ.weaken {S S':Nat→Prop} {w:World} {v:Value} {l:List Mv} (h:AJ S w v l) (hs:∀b,S b→S' b):AJ S' w v l:=⟨h.1.weaken hs,h.2⟩
theorem AJ.same {S:Nat→Prop} {w w':World} {v:Value} {l:List Mv} (h:AJ S w v l) (hs:Km S w w'):AJ S w' v l:=⟨h.1.same hs,h.2⟩
theorem AJ.nil (S:Nat→Prop) (w:World) (cap:Nat) (a:Option Addr) (h:cap≤9223372036854775807):AJ S w (.slice a 0 cap) []:=
 ⟨⟨a,cap,rfl,Nat.zero_le _,h,by simp,fun h=>absurd h (by simp)⟩,fun x hx=>by cases hx⟩
theorem AJ.shape {S:Nat→Prop} {w:World} {v:Value} {l:List Mv} (h:AJ S w v l):∃p:Option Addr×Nat,v=.slice p.1 l.length p.2:=
 let⟨a,cap,hv,_⟩:=h.1;⟨(a,cap),hv⟩
theorem AJ.each {S:Nat→Prop} {w:World} {v:Value} {l:List Mv} (h:AJ S w v l) {i:Nat} (hi:i<l.length):Dy (mv l i).old∧Dy (mv l i).new∧(mv l i).name.size≤140737488351232:=h.2 _ (Ko hi)
theorem AJ.open {S:Nat→Prop} {w:World} {v:Value} {l:List Mv} (h:AJ S w v l):
  ∃a n cap,Hid (n=l.length)∧v=.slice a n cap∧n≤cap∧cap≤9223372036854775807∧n*32≤140737488351232∧
   (0<n→∃b off,a=some ⟨b,off,none⟩∧S b∧(∀i x,i<n→Below w.heap.size w x→x.cell? ⟨b,off+i*3,none⟩=some (.string (mv l i).name))∧
    (∀i x,i<n→Below w.heap.size w x→x.cell? ⟨b,off+i*3+1,none⟩=some (.int .i64 (mv l i).old))∧(∀i x,i<n→Below w.heap.size w x→x.cell? ⟨b,off+i*3+2,none⟩=some (.int .i64 (mv l i).new))):=by
 obtain⟨a,cap,hv,h1,h2,h3,h4⟩:=h.1;refine⟨a,l.length,cap,rfl,hv,h1,h2,h3,fun hn=>?_⟩;obtain⟨b,off,ha,hS,hc⟩:=h4 hn;exact⟨b,off,ha,hS.1,fun i x hi hb=>Ae hb (hc i hi 0 _ rfl),fun i x hi hb=>Ae hb (hc i hi 1 _ rfl),fun i x hi hb=>Ae hb (hc i hi 2 _ rfl)⟩
def LU (l:List Mv) (i:Nat):Bool:=(List.range i).any fun k=>(mv l k).name.toList==(mv l i).name.toList
def Eb (l:List Mv) (i:Nat):Int:=
 if AR (mv l i).name≠0 then AR (mv l i).name
 else if within (mv l i).old 0 99=false∨within (mv l i).new 0 99=false then 3
 else if(mv l i).old=0∧(mv l i).new=0 then 1
 else if LU l i=true then 6 else 0
def AP (l:List Mv):Int:=if l.length=0 then 5 else if 4<l.length then 2 else An (Eb l) l.length
theorem JS {l:List Mv} (h:l.length=0):AP l=5:=by unfold AP;rw[if_pos h]
theorem JR {l:List Mv} (h:4<l.length):AP l=2:=by unfold AP;rw[if_neg (by omega),if_pos h]
theorem KK {l:List Mv} {i:Nat} {e:Int} (h0:0<l.length) (hn:l.length≤4) (hs:An (Eb l) i=0) (hi:i<l.length) (he:Eb l i=e) (hne:e≠0):AP l=e:=by
 unfold AP;rw[if_neg (by omega),if_neg (by omega),BX hs (by rw[he];exact hne) hi,he]
theorem IX {l:List Mv} (h0:0<l.length) (hn:l.length≤4) (hs:An (Eb l) l.length=0):AP l=0:=by
 unfold AP;rw[if_neg (by omega),if_neg (by omega),hs]
theorem OV {l:List Mv} (h:AP l=0):0<l.length∧l.length≤4∧An (Eb l) l.length=0:=by
 unfold AP at h;by_cases h1:l.length=0
 ·rw[if_pos h1] at h;exact absurd h (by decide)
 ·rw[if_neg h1] at h
  by_cases h2:4<l.length
  ·rw[if_pos h2] at h;exact absurd h (by decide)
  ·rw[if_neg h2] at h;exact⟨by omega,by omega,h⟩
theorem Od {l:List Mv} {i:Nat}:Eb l i=0↔AR (mv l i).name=0∧(0≤(mv l i).old∧(mv l i).old≤99)∧(0≤(mv l i).new∧(mv l i).new≤99)∧¬((mv l i).old=0∧(mv l i).new=0)∧∀k,k<i→(mv l k).name≠(mv l i).name:=by
 unfold Eb;by_cases h1:AR (mv l i).name=0
 ·rw[if_neg (by simp[h1])]
  by_cases h2:within (mv l i).old 0 99=false∨within (mv l i).new 0 99=false
  ·rw[if_pos h2]
   constructor
   ·intro e;cases e
   ·rintro⟨_,ha,hb,_⟩
    rcases h2 with h2|h2
    ·exact absurd ha (DT h2)
    ·exact absurd hb (DT h2)
  ·rw[if_neg h2]
   have ho:within (mv l i).old 0 99=true:=by cases h:within (mv l i).old 0 99;exact absurd (.inl h) h2;rfl
   have hn:within (mv l i).new 0 99=true:=by cases h:within (mv l i).new 0 99;exact absurd (.inr h) h2;rfl
   have ho:=BH ho;have hn:=BH hn;by_cases h3:(mv l i).old=0∧(mv l i).new=0
   ·rw[if_pos h3]
    constructor
    ·intro e;cases e
    ·rintro⟨_,_,_,h,_⟩;exact absurd h3 h
   ·rw[if_neg h3]
    have hd:LU l i=true↔∃k,k<i∧(mv l k).name=(mv l i).name:=by
     unfold LU;rw[List.any_eq_true];constructor
     ·rintro⟨k,hk,e⟩;exact⟨k,List.mem_range.1 hk,by rw[BL] at e;simpa using e⟩
     ·rintro⟨k,hk,e⟩;exact⟨k,List.mem_range.2 hk,by rw[BL];simpa using e⟩
    by_cases h4:LU l i=true
    ·rw[if_pos h4]
     constructor
     ·intro e;cases e
     ·rintro⟨_,_,_,_,h⟩
      obtain⟨k,hk,e⟩:=hd.1 h4;exact absurd e (h k hk)
    ·rw[if_neg h4]
     simp only[true_iff];exact⟨h1,ho,hn,h3,fun k hk e=>h4 (hd.2 ⟨k,hk,e⟩)⟩
 ·rw[if_pos h1]
  constructor
  ·intro e;exact absurd e h1
  ·rintro⟨e,_⟩;exact absurd e h1
structure EJ (l:List Mv):Prop where
 some:0<l.length
 many:l.length≤4
 name:∀u∈l,AR u.name=0
 old:∀u∈l,0≤u.old∧u.old≤99
 new:∀u∈l,0≤u.new∧u.new≤99
 moves:∀u∈l,¬(u.old=0∧u.new=0)
 once:l.Pairwise fun a b=>a.name≠b.name
theorem FN {l:List Mv} {x:Mv} (h:x∈l):∃i,i<l.length∧mv l i=x:=by
 obtain⟨i,hi,rfl⟩:=List.getElem_of_mem h;exact⟨i,hi,Da hi⟩
theorem Ma {l:List Rf} {x:Rf} (h:x∈l):∃i,i<l.length∧rf l i=x:=by
 obtain⟨i,hi,rfl⟩:=List.getElem_of_mem h;exact⟨i,hi,DB hi⟩
theorem Jp {l:List Mv}:AP l=0↔EJ l:=by
 constructor
 ·intro h
  obtain⟨h0,h4,hs⟩:=OV h;have hz:=fun i hi=>Od.1 (Bn hs i hi)
  refine⟨h0,h4,fun u hu=>?_,fun u hu=>?_,fun u hu=>?_,fun u hu=>?_,?_⟩
  ·obtain⟨i,hi,rfl⟩:=FN hu;exact(hz i hi).1
  ·obtain⟨i,hi,rfl⟩:=FN hu;exact(hz i hi).2.1
  ·obtain⟨i,hi,rfl⟩:=FN hu;exact(hz i hi).2.2.1
  ·obtain⟨i,hi,rfl⟩:=FN hu;exact(hz i hi).2.2.2.1
  ·rw[List.pairwise_iff_getElem]
   intro i j hi hj hij;have:=(hz j hj).2.2.2.2 i hij
   rwa [Da hi,Da hj] at this
 ·intro h
  refine IX h.some h.many (Bd fun i hi=>Od.2 ⟨h.name _ (Cz hi),h.old _ (Cz hi),h.new _ (Cz hi),h.moves _ (Cz hi),fun k hk=>?_⟩);have:=List.pairwise_iff_getElem.1 h.once k i (by omega) hi hk
  rwa [←Da,←Da] at this
def CR (l:List Rf) (s:ByteArray):Int:=if CI l s=-1 then 0 else(rf l (CI l s).toNat).id
def KG (l:List Rf):Prop:=l.Pairwise fun a b=>Au a.name b.name=true
theorem JB {l:List Rf}:KG l↔∀i j,i<j→j<l.length→Au (rf l i).name (rf l j).name=true:=by
 unfold KG;rw[List.pairwise_iff_getElem];constructor
 ·intro h i j hij hj
  have:=h i j (by omega) hj hij
  rwa [DB hj,DB (by omega)]
 ·intro h i j hi hj hij
  have:=h i j hij hj
  rwa [DB hj,DB hi] at this
theorem Fk.asc {l:List Rf} {objs:List Obj} (h:Fk l objs):KG l:=JB.2 h.up
theorem Fg {a b:ByteArray} (h:Au a b=true):Au b a=false:=by
 cases e:Au b a
 ·rfl
 ·have:=DM h e;rw[BY] at this;cases this
theorem GS {a b:ByteArray} (h:Au a b=true):a≠b:=by rintro rfl;rw[BY] at h;cases h
theorem FG {a b:ByteArray} (h1:Au a b=false) (h2:Au b a=false):a=b:=by
 have:=ZG a b;rw[show Op.bytesLess a.toList b.toList=Au a b from rfl,h1,h2,BL] at this;simpa using this
def Bj (l:List Rf) (s:ByteArray):List Rf:=l.filter fun r=>!(r.name.toList==s.toList)
theorem Jl {l:List Rf} {s:ByteArray} {x:Rf}:x∈Bj l s↔x∈l∧x.name≠s:=by
 unfold Bj;rw[List.mem_filter,BL];simp
theorem Di (a b:List Rf) (s:ByteArray):Bj (a++b) s=Bj a s++Bj b s:=by unfold Bj;rw[List.filter_append]
theorem GP {r:Rf} {s:ByteArray}:Bj [r] s=if r.name.toList==s.toList then[] else[r]:=by
 unfold Bj;cases h:(r.name.toList==s.toList)<;>simp[h]
def Db (r:Rf):List Rf→List Rf
 |[]=>[r]
 |x::l=>if Au x.name r.name then x::Db r l else r::x::l
def CW (l:List Rf) (s:ByteArray) (id:Int):List Rf:=if id=0 then Bj l s else Db ⟨s,id⟩ (Bj l s)
theorem Uy {r x:Rf} {l:List Rf}:x∈Db r l↔x=r∨x∈l:=by
 induction l with
 |nil=>simp[Db]
 | cons y l ih=>
  unfold Db;split
  ·rw[List.mem_cons,ih,List.mem_cons];constructor
   ·rintro(h|h|h)
    ·exact .inr (.inl h)
    ·exact .inl h
    ·exact .inr (.inr h)
   ·rintro(h|h|h)
    ·exact .inr (.inl h)
    ·exact .inl h
    ·exact .inr (.inr h)
  ·simp
theorem TH (r:Rf) (l:List Rf):(Db r l).length=l.length+1:=by
 induction l with
 |nil=>rfl
 |cons y l ih=>unfold Db;split<;>simp[ih]
theorem TU (l:List Rf) (s:ByteArray) (id:Int):(CW l s id).length≤l.length+1:=by
 unfold CW;have h:(Bj l s).length≤l.length:=List.length_filter_le _ _;split
 ·omega
 ·rw[TH];omega
theorem Ip {l:List Rf} {s:ByteArray} {id:Int} {x:Rf}:x∈CW l s id↔(x∈l∧x.name≠s)∨(id≠0∧x=⟨s,id⟩):=by
 unfold CW;split
 ·rename_i h;rw[Jl];simp[h]
 ·rename_i h;rw[Uy,Jl]
  constructor
  ·rintro(h1|h1)
   ·exact .inr ⟨h,h1⟩
   ·exact .inl h1
  ·rintro(h1|h1)
   ·exact .inr h1
   ·exact .inl h1.2
theorem KZ {l:List Rf} (h:KG l) (s:ByteArray):KG (Bj l s):=List.Pairwise.filter _ h
theorem Zl {l:List Rf} {r:Rf} (h:KG l) (hr:∀x∈l,x.name≠r.name):KG (Db r l):=by
 induction l with
 |nil=>exact List.pairwise_singleton _ _
 | cons y l ih=>
  unfold Db;have h':=List.pairwise_cons.1 h;cases e:Au y.name r.name
  ·rw[if_neg (by simp)]
   refine List.pairwise_cons.2 ⟨fun x hx=>?_,h⟩;have hy:Au r.name y.name=true:=by
    cases e2:Au r.name y.name
    ·exact absurd (FG e e2) (hr y List.mem_cons_self)
    ·rfl
   rcases List.mem_cons.1 hx with rfl|hx
   ·exact hy
   ·exact DM hy (h'.1 x hx)
  ·rw[if_pos rfl]
   refine List.pairwise_cons.2 ⟨fun x hx=>?_,ih h'.2 fun x hx=>hr x (List.mem_cons_of_mem _ hx)⟩;rcases Uy.1 hx with rfl|hx
   ·exact e
   ·exact h'.1 x hx
theorem Nc {l:List Rf} (h:KG l) (s:ByteArray) (id:Int):KG (CW l s id):=by
 unfold CW;split
 ·exact KZ h s
 ·exact Zl (KZ h s) fun x hx=>(Jl.1 hx).2
theorem Qh:∀{a b:List Rf},KG a→KG b→(∀x,x∈a↔x∈b)→a=b
 |[],[],_,_,_=>rfl
 |[],y::b,_,_,h=>absurd ((h y).2 List.mem_cons_self) (by simp)
 |x::a,[],_,_,h=>absurd ((h x).1 List.mem_cons_self) (by simp)
 | x::a,y::b,ha,hb,h=>by
  have ha':=List.pairwise_cons.1 ha;have hb':=List.pairwise_cons.1 hb;have e:x=y:=by
   have h1:=(h x).1 List.mem_cons_self;have h2:=(h y).2 List.mem_cons_self;rcases List.mem_cons.1 h1 with e|h1
   ·exact e
   ·rcases List.mem_cons.1 h2 with e|h2
    ·exact e.symm
    ·have:=DM (ha'.1 y h2) (hb'.1 x h1)
     rw[BY] at this;cases this
  subst e;have:a=b:=Qh ha'.2 hb'.2 fun z=>by
   constructor
   ·intro hz
    rcases List.mem_cons.1 ((h z).1 (List.mem_cons_of_mem _ hz)) with e|h1
    ·exact absurd (congrArg Rf.name e).symm (GS (ha'.1 z hz))
    ·exact h1
   ·intro hz
    rcases List.mem_cons.1 ((h z).2 (List.mem_cons_of_mem _ hz)) with e|h1
    ·exact absurd (congrArg Rf.name e).symm (GS (hb'.1 z hz))
    ·exact h1
  rw[this]
theorem Rg {l:List Rf} (h:KG l) {x y:Rf} (hx:x∈l) (hy:y∈l) (e:x.name=y.name):x=y:=by
 obtain⟨i,hi,rfl⟩:=Ma hx;obtain⟨j,hj,rfl⟩:=Ma hy;rcases Nat.lt_trichotomy i j with h1|rfl|h1
 ·exact absurd e (GS (JB.1 h i j h1 hj))
 ·rfl
 ·exact absurd e.symm (GS (JB.1 h j i h1 hi))
theorem Ea {l:List Rf} {s:ByteArray}:CI l s=-1↔∀x∈l,x.name≠s:=by
 unfold CI;cases h:l.findIdx? (fun r=>r.name.toList==s.toList) with
 |none=>
  rw[List.findIdx?_eq_none_iff] at h;simp only[true_iff];intro x hx e;have:=h x hx;rw[e] at this;simp at this
 | some i=>
  rw[List.findIdx?_eq_some_iff_getElem] at h;obtain⟨hi,he,_⟩:=h;constructor
  ·intro e;simp only at e;omega
  ·intro hx
   exact absurd (by rw[BL] at he;simpa using he) (hx _ (List.getElem_mem hi))
theorem GK {l:List Rf} {s:ByteArray} (h:CI l s≠-1):∃i,i<l.length∧CI l s=(i:Int)∧(rf l i).name=s:=by
 rcases Qr l s with h1|⟨i,hi,h1,h2⟩
 ·exact absurd h1 h
 ·exact⟨i,hi,h1,h2⟩
theorem NL {l:List Rf} (h:KG l) {x:Rf} (hx:x∈l):CR l x.name=x.id:=by
 unfold CR;by_cases e:CI l x.name=-1
 ·exact absurd rfl (Ea.1 e x hx)
 ·rw[if_neg e]
  obtain⟨i,hi,h1,h2⟩:=GK e;rw[h1];have:=Rg h (QI hi) hx h2;simp only[Int.toNat_natCast,this]
theorem LW {l:List Rf} {s:ByteArray} (h:∀x∈l,x.name≠s):CR l s=0:=by unfold CR;rw[if_pos (Ea.2 h)]
theorem EO {l:List Rf} (h:KG l) (s:ByteArray):(CR l s=0∧∀x∈l,x.name≠s)∨∃x∈l,x.name=s∧CR l s=x.id:=by
 by_cases e:CI l s=-1
 ·exact .inl ⟨LW (Ea.1 e),Ea.1 e⟩
 ·obtain⟨i,hi,h1,h2⟩:=GK e
  refine .inr ⟨rf l i,QI hi,h2,?_⟩;unfold CR;rw[if_neg e,h1];rfl
def GC (l:List Rf) (s:ByteArray) (id:Int):Nat→Bool
 |0=>id==0
 |k+1=>GC l s id k||Au s (rf l k).name
def JA (l:List Rf) (s:ByteArray) (id:Int):Nat→List Rf
 |0=>[]
 |k+1=>JA l s id k++(if !GC l s id k && Au s (rf l k).name then[⟨s,id⟩] else[])++(if(rf l k).name.toList==s.toList then[] else[rf l k])
theorem UB {r:Rf} {a b:List Rf} (h:∀x∈a,Au x.name r.name=true):Db r (a++b)=a++Db r b:=by
 induction a with
 |nil=>rfl
 |cons x a ih=>
  rw[List.cons_append,Db,if_pos (h x List.mem_cons_self),ih fun y hy=>h y (List.mem_cons_of_mem _ hy)];rfl
theorem XZ {r:Rf} {a b:List Rf} (h:∃x∈a,Au x.name r.name=false):Db r (a++b)=Db r a++b:=by
 induction a with
 |nil=>obtain⟨x,hx,_⟩:=h;cases hx
 | cons x a ih=>
  rw[List.cons_append,Db,Db];cases e:Au x.name r.name
  ·simp
  ·obtain⟨y,hy,h2⟩:=h
   rcases List.mem_cons.1 hy with rfl|hy
   ·rw[e] at h2;cases h2
   ·simp only[if_true,List.cons_append];rw[ih ⟨y,hy,h2⟩]
theorem Lw {l:List Rf} {n:Nat} (h:n<l.length):l.take (n+1)=l.take n++[rf l n]:=by
 rw[List.take_succ_eq_append_getElem h,DB h]
theorem Wf (l:List Rf) (s:ByteArray) (id:Int):∀k,k≤l.length→
  (id=0→GC l s id k=true∧JA l s id k=Bj (l.take k) s)∧
  (id≠0→(GC l s id k=false∧JA l s id k=Bj (l.take k) s∧∀x∈l.take k,Au s x.name=false)∨
   (GC l s id k=true∧JA l s id k=Db ⟨s,id⟩ (Bj (l.take k) s)∧∃y∈Bj (l.take k) s,Au y.name s=false)):=by
 intro k
 induction k with
 |zero=>
  intro _;refine⟨fun h=>⟨by simp[GC,h],rfl⟩,fun h=>.inl ⟨by simp[GC,h],rfl,fun x hx=>by simp at hx⟩⟩
 | succ k ih=>
  intro hk;obtain⟨ih1,ih2⟩:=ih (by omega);have hts:=Lw (l:=l) (n:=k) (by omega);refine⟨fun h=>?_,fun h=>?_⟩
  ·obtain⟨h1,h2⟩:=ih1 h
   refine⟨by simp[GC,h1],?_⟩;rw[hts,Di,GP,JA,h1,h2];simp
  ·rcases ih2 h with⟨h1,h2,h3⟩|⟨h1,h2,h3⟩
   ·cases e:Au s (rf l k).name
    ·refine .inl ⟨by simp[GC,h1,e],?_,fun x hx=>?_⟩
     ·rw[hts,Di,GP,JA,h1,h2,e];simp
     ·rw[hts] at hx
      rcases List.mem_append.1 hx with hx|hx
      ·exact h3 x hx
      ·rw[List.mem_singleton.1 hx];exact e
    ·have hne:((rf l k).name.toList==s.toList)=false:=by
      rw[BL,decide_eq_false_iff_not];intro e2;rw[e2,BY] at e;cases e
     refine .inr ⟨by simp[GC,e],?_,rf l k,?_,Fg e⟩
     ·rw[hts,Di,GP,JA,h1,h2,e,hne,UB]
      ·simp[Db,Fg e]
      ·intro x hx
       obtain⟨hx,hxn⟩:=Jl.1 hx;cases e3:Au x.name s
       ·exact absurd (FG e3 (h3 x hx)) hxn
       ·rfl
     ·rw[hts,Di,GP,hne];simp
   ·refine .inr ⟨by simp[GC,h1],?_,?_⟩
    ·rw[hts,Di,GP,XZ h3,JA,h1,h2];simp
    ·obtain⟨y,hy,h4⟩:=h3
     exact⟨y,by rw[hts,Di];exact List.mem_append_left _ hy,h4⟩
theorem Wh (l:List Rf) (s:ByteArray) (id:Int):JA l s id l.length++(if GC l s id l.length then[] else[⟨s,id⟩])=CW l s id:=by
 obtain⟨h1,h2⟩:=Wf l s id l.length (Nat.le_refl _);rw[List.take_length] at h1 h2;unfold CW;by_cases h:id=0
 ·obtain⟨a,b⟩:=h1 h;rw[if_pos h,a,b];simp
 ·rw[if_neg h]
  rcases h2 h with⟨a,b,c⟩|⟨a,b,c⟩
  ·rw[a,b]
   have:=UB (r:=⟨s,id⟩) (a:=Bj l s) (b:=[]) (fun x hx=>by
    obtain⟨hx,hxn⟩:=Jl.1 hx;cases e3:Au x.name s
    ·exact absurd (FG e3 (c x hx)) hxn
    ·rfl)
   rw[List.append_nil] at this;rw[this];simp[Db]
  ·rw[a,b];simp
def Zc (l:List Rf) (s:ByteArray):Nat:=(l.takeWhile fun x=>Au x.name s).length
def LX (l:List Rf) (i:Nat) (r:Rf):List Rf:=l.take i++[r]++l.drop i
theorem ZQ (l:List Rf) (s:ByteArray):Zc l s≤l.length:=(List.takeWhile_prefix _).length_le
theorem YZ (l:List Rf) (r:Rf):LX l (Zc l r.name) r=Db r l:=by
 unfold LX Zc
 induction l with
 |nil=>rfl
 | cons x l ih=>
  rw[Db,List.takeWhile_cons];cases e:Au x.name r.name
  ·simp
  ·simp only[if_true,List.length_cons,List.take_succ_cons,List.drop_succ_cons]
   simp only[List.cons_append,List.cons.injEq,true_and];simpa using ih
theorem QT {l:List Rf} (h:KG l) {i:Nat} (hi:i<l.length) {s:ByteArray} (e:(rf l i).name=s):without l i=Bj l s:=by
 have h1:Bj (l.take i) s=l.take i:=by
  unfold Bj;rw[List.filter_eq_self];intro x hx;rw[BL];obtain⟨j,hj,rfl⟩:=List.getElem_of_mem hx;have hj':j<i:=by simp at hj;omega
  have:=GS (JB.1 h j i hj' hi);rw[e,DB (show j<l.length by omega)] at this;simp only[List.getElem_take];simpa using this
 have h2:Bj (l.drop (i+1)) s=l.drop (i+1):=by
  unfold Bj;rw[List.filter_eq_self];intro x hx;rw[BL];obtain⟨j,hj,rfl⟩:=List.getElem_of_mem hx;have hj':i+1+j<l.length:=by simp at hj;omega
  have:=GS (JB.1 h i (i+1+j) (by omega) hj');rw[e,DB hj'] at this;simp only[List.getElem_drop];simpa using fun e=>this e.symm
 have h3:l=l.take i++[rf l i]++l.drop (i+1):=by
  rw[←Lw hi,List.take_append_drop]
 unfold without
 conv=>rhs;rw[h3]
 rw[Di,Di,h1,h2,GP,e];simp
theorem Vp {l:List Rf} {s:ByteArray} (h:CI l s=-1):Bj l s=l:=by
 unfold Bj;rw[List.filter_eq_self];intro x hx;rw[BL];simpa using Ea.1 h x hx
def Cy (l:List Rf) (objs:List Obj) (u:Mv) (force:Bool):Int:=
 if CR l u.name≠u.old then 4
 else if u.new=0 then 0
 else if AH objs u.new≠0 then AH objs u.new
 else if u.old≠0∧force=false∧Dj objs u.old u.new=false then 4 else 0
def AL (l:List Rf) (us:List Mv):Nat→List Rf
 |0=>l
 |k+1=>CW (AL l us k) (mv us k).name (mv us k).new
def BJ (l:List Rf) (objs:List Obj) (us:List Mv) (force:Bool) (k:Nat):Int:=Cy (AL l us k) objs (mv us k) force
def Ce (l:List Rf) (objs:List Obj) (us:List Mv) (force:Bool):Int:=
 if An (BJ l objs us force) us.length=0 then AE (AL l us us.length) objs else An (BJ l objs us force) us.length
def Ey (l:List Rf) (objs:List Obj) (us:List Mv) (force:Bool):List Rf:=if Ce l objs us force=0 then AL l us us.length else[]
def CQ (l:List Rf) (objs:List Obj) (us:List Mv) (force:Bool):Int:=
 if Ap l objs≠0 then Ap l objs else if AP us≠0 then AP us else Ce l objs us force
def Ei (l:List Rf) (objs:List Obj) (us:List Mv) (force:Bool):List Rf:=if CQ l objs us force=0 then AL l us us.length else[]
theorem EQ {l:List Rf} (h:KG l) (us:List Mv):∀k,KG (AL l us k)
 |0=>h
 |k+1=>Nc (EQ h us k) _ _
theorem EX (l:List Rf) (us:List Mv):∀k,(AL l us k).length≤l.length+k
 |0=>Nat.le_refl _
 |k+1=>by have:=TU (AL l us k) (mv us k).name (mv us k).new;have:=EX l us k;show(CW _ _ _).length≤_;omega
theorem Is {l:List Rf} {objs:List Obj} {u:Mv} {force:Bool}:Cy l objs u force=0↔
  CR l u.name=u.old∧(u.new≠0→AC objs u.new=3∧(u.old≠0→force=false→Dj objs u.old u.new=true)):=by
 unfold Cy;by_cases h1:CR l u.name=u.old
 ·rw[if_neg (by simp[h1])]
  by_cases h2:u.new=0
  ·rw[if_pos h2];simp[h1,h2]
  ·rw[if_neg h2]
   by_cases h3:AH objs u.new=0
   ·rw[if_neg (by simp[h3])]
    have h3':=DH.1 h3;by_cases h4:u.old≠0∧force=false∧Dj objs u.old u.new=false
    ·rw[if_pos h4]
     constructor
     ·intro e;cases e
     ·rintro⟨_,h⟩
      have:=(h h2).2 h4.1 h4.2.1;rw[h4.2.2] at this;cases this
    ·rw[if_neg h4]
     simp only[true_iff];refine⟨h1,fun _=>⟨h3',fun h5 h6=>?_⟩⟩;cases h7:Dj objs u.old u.new
     ·exact absurd ⟨h5,h6,h7⟩ h4
     ·rfl
   ·rw[if_pos h3]
    constructor
    ·intro e;exact absurd e h3
    ·rintro⟨_,h⟩;exact absurd (DH.2 (h h2).1) h3
 ·rw[if_pos h1]
  constructor
  ·intro e;cases e
  ·rintro⟨e,_⟩;exact absurd e h1
theorem FP {l:List Rf} {objs:List Obj} {us:List Mv} {force:Bool} (h:∀r∈l,AC objs r.id=3):∀k,An (BJ l objs us force) k=0→∀r∈AL l us k,AC objs r.id=3
 |0,_,r,hr=>h r hr
 |k+1,hs,r,hr=>by
  have h1:=Bn hs;rcases Ip.1 hr with⟨hr,_⟩|⟨hn,rfl⟩
  ·exact FP h k (Bd fun i hi=>h1 i (by omega)) r hr
  ·exact((Is.1 (h1 k (by omega))).2 hn).1
end Go.Proofs.YtgbnlmplkealdaaGreatDoor
