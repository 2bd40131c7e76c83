
/- Base: Mem, Am, Pure, Mem2, Rep2, Bytes, Same, Str, Raw, StoreP, WalkP, RefsP, Drawn, Flow, II. -/
import Derived.WalkKit
import Derived.WalkSpells
import Derived.WalkLawsBesides
import Derived.Lib.Hide
import Derived.Outline
import Derived.Deep.RegionHeld3
import Derived.Deep.QuietTactic
import Derived.BigQuiet
import Derived.Deep.DrawnRows
import Derived.Deep.LoopGhost
import Derived.Maps.AppendAt
import Derived.Laws.BytesArg
import Derived.Lib.AppendStr
import Derived.Lib.QuietBelow
import Derived.Laws.Strings3
import Derived.Lib.Strings
set_option linter.all false
namespace Go.Proofs.YtgbnlmplkealdaaGreatDoor
open Go.RowKit
theorem DF (w:World):∀(x:World) (o:Go.Obj),Below w.heap.size w x→Below w.heap.size w (x.alloc o):=fun _ o h=>h.alloc h.size o
theorem Kq (w:World):∀(x:World),Below w.heap.size w x→Below w.heap.size w x.drew:=fun _ h=>h.drew
theorem Al {w x y:World} (h:Below w.heap.size w x) (h':Below x.heap.size x y):Below w.heap.size w y:=h.trans (h'.mono h.size)
theorem CA (w:World):∀(x:World) (n:Nat),Below w.heap.size w x→Below w.heap.size w (x.drewN n):=fun _ _ h=>⟨h.os,h.tape,h.output,h.size,h.block⟩
theorem Ae {w x:World} {a:Addr} {v:Value} (h:Below w.heap.size w x) (hc:w.cell? a=some v):x.cell? a=some v:=
 (h.cell (World.block_lt_of_cell? w a hc)).trans hc
theorem BV {P:Program} {f:FuncId} {args:Array Value} {w:World} {n:Nat} {v:Value}
  (h:Calls P f args (w.drewN n) fun e w'=>e=.returned v∧w.drewN n=w'):Calls P f args (w.drewN n) fun e w''=>e=.returned v∧∃m,w''=w.drewN m:=
 h.mono fun _ _ ⟨he,hm⟩=>⟨he,n,hm.symm⟩
theorem Be {n:Int} (h:-9223372036854775808≤n∧n≤9223372036854775807):IntKind.i64.wrap n=n:=by
 rw[IntKind.wrap_i64];omega
def Dy (n:Int):Prop:=-9223372036854775808≤n∧n≤9223372036854775807
class Ghost where
 frz:Nat→Prop
variable [Ghost]
def MX (w:World) (b off m:Nat):Prop:=Ghost.frz b∨(b<w.heap.size∧∀k,k<m→w.frozen? ⟨b,off+k,none⟩=false)
def SF (S:Nat→Prop) (w:World) (b off m:Nat):Prop:=S b∧MX w b off m
theorem MX.same {w w':World} {b off m:Nat} (h:MX w b off m) (hb:b<w.heap.size→w'.heap[b]?=w.heap[b]?):MX w' b off m:=by
 rcases h with h|⟨hl,h⟩
 ·exact .inl h
 ·have e:=hb hl
  refine .inr ⟨?_,fun k hk=>?_⟩
  ·rcases Nat.lt_or_ge b w'.heap.size with h1|h1
   ·exact h1
   ·rw[Array.getElem?_eq_none h1,Array.getElem?_eq_getElem hl] at e;cases e
  ·have:=h k hk
   unfold World.frozen? at this⊢;rw[show w'.heap[(⟨b,off+k,none⟩:Addr).block]?=w.heap[(⟨b,off+k,none⟩:Addr).block]? from e];exact this
theorem MX.below {w w':World} {b off m:Nat} (h:MX w b off m) (hb:Below w.heap.size w w'):MX w' b off m:=h.same fun hl=>hb.block b hl
theorem MX.of_block {w:World} {b off m:Nat} {cs:Array Value} {t:TypeId} (h:w.heap[b]?=some (.cells cs t (0,0))):MX w b off m:=
 .inr ⟨(Array.getElem?_eq_some_iff.1 h).1,fun k _=>by simp[World.frozen?,h]⟩
theorem MX.sub {w:World} {b off m off' m':Nat} (h:MX w b off m) (h1:off≤off') (h2:off'+m'≤off+m):MX w b off' m':=
 h.imp id fun⟨a,f⟩=>⟨a,fun k hk=>by have:=f (off'+k-off) (by omega);rwa [show off+(off'+k-off)=off'+k by omega] at this⟩
theorem SF.below {S:Nat→Prop} {w w':World} {b off m:Nat} (h:SF S w b off m) (hb:Below w.heap.size w w'):SF S w' b off m:=⟨h.1,h.2.below hb⟩
def Sl (S:Nat→Prop) (w:World) (v:Value) (sz bts n:Nat) (cs:Nat→List Value):Prop:=
 ∃a cap,v=.slice a n cap∧n≤cap∧cap≤9223372036854775807∧n*bts≤140737488351232∧
  (0<n→∃b off,a=some ⟨b,off,none⟩∧SF S w b off (n*sz)∧∀i,i<n→∀j u,(cs i)[j]?=some u→w.cell? ⟨b,off+i*sz+j,none⟩=some u)
theorem Sl.below {S:Nat→Prop} {w w':World} {v:Value} {sz bts n:Nat} {cs:Nat→List Value} (h:Sl S w v sz bts n cs) (hb:Below w.heap.size w w'):Sl S w' v sz bts n cs:=by
 obtain⟨a,cap,hv,h1,h2,h3,h4⟩:=h;refine⟨a,cap,hv,h1,h2,h3,fun hn=>?_⟩;obtain⟨b,off,ha,hS,hc⟩:=h4 hn;exact⟨b,off,ha,hS.below hb,fun i hi j u hu=>Ae hb (hc i hi j u hu)⟩
theorem Sl.weaken {S S':Nat→Prop} {w:World} {v:Value} {sz bts n:Nat} {cs:Nat→List Value} (h:Sl S w v sz bts n cs) (hs:∀b,S b→S' b):Sl S' w v sz bts n cs:=by
 obtain⟨a,cap,hv,h1,h2,h3,h4⟩:=h;refine⟨a,cap,hv,h1,h2,h3,fun hn=>?_⟩;obtain⟨b,off,ha,hS,hc⟩:=h4 hn;exact⟨b,off,ha,⟨hs _ hS.1,hS.2⟩,hc⟩
def Km (S:Nat→Prop) (w w':World):Prop:=∀b,S b→w'.heap[b]?=w.heap[b]?
theorem Sl.same {S:Nat→Prop} {w w':World} {v:Value} {sz bts n:Nat} {cs:Nat→List Value} (h:Sl S w v sz bts n cs) (hs:Km S w w'):Sl S w' v sz bts n cs:=by
 obtain⟨a,cap,hv,h1,h2,h3,h4⟩:=h;refine⟨a,cap,hv,h1,h2,h3,fun hn=>?_⟩;obtain⟨b,off,ha,hS,hc⟩:=h4 hn;exact⟨b,off,ha,⟨hS.1,hS.2.same fun _=>hs b hS.1⟩,fun i hi j u hu=>(World.cell?_of_block (a:=⟨b,_,none⟩) (hs b hS.1)).trans (hc i hi j u hu)⟩
def at_ {α:Type} (d:α) (l:List α) (i:Nat):α:=l.getD i d
theorem Ni {α:Type} {d:α} {l:List α} {i:Nat} (h:i<l.length):at_ d l i=l[i]:=by simp[at_,List.getD_eq_getElem?_getD,h]
theorem Ko {α:Type} {d:α} {l:List α} {i:Nat} (h:i<l.length):at_ d l i∈l:=by rw[Ni h];exact List.getElem_mem h
structure AK (T:Nat→Prop) (w w':World):Prop where
 os:w'.os=w.os
 tape:w'.tape=w.tape
 output:w'.output=w.output
 size:w.heap.size≤w'.heap.size
 block:∀b,b<w.heap.size→¬T b→w'.heap[b]?=w.heap[b]?
theorem AK.refl (T:Nat→Prop) (w:World):AK T w w:=⟨rfl,rfl,rfl,Nat.le_refl _,fun _ _ _=>rfl⟩
theorem AK.trans {T T1:Nat→Prop} {a b c:World} (h:AK T a b) (k:AK T1 b c) (hT:∀x,x<a.heap.size→T1 x→T x):AK T a c:=
 ⟨k.os.trans h.os,k.tape.trans h.tape,k.output.trans h.output,Nat.le_trans h.size k.size,
  fun x hx hn=>(k.block x (Nat.lt_of_lt_of_le hx h.size) (fun ht=>hn (hT x hx ht))).trans (h.block x hx hn)⟩
theorem AK.alloc {T:Nat→Prop} {a w:World} (h:AK T a w) (o:Go.Obj):AK T a (w.alloc o):=
 h.trans (T1:=fun _=>False) ⟨rfl,rfl,rfl,by simp,fun k hk _=>Below.heap_alloc _ _ _ hk⟩ (fun _ _ hf=>hf.elim)
theorem AK.drew {T:Nat→Prop} {a w:World} (h:AK T a w):AK T a w.drew:=⟨h.os,h.tape,h.output,h.size,h.block⟩
theorem AK.setCell {T:Nat→Prop} {a w:World} (h:AK T a w) {p:Addr} (hp:p.block<a.heap.size→T p.block) (u:Value):AK T a (w.setCell p u):=
 h.trans (T1:=fun b=>b=p.block) ⟨rfl,rfl,rfl,by simp[World.setCell],fun k hk hn=>Below.heap_setCell _ _ _ _ hn⟩ (fun x hx e=>by subst e;exact hp hx)
theorem AK.grown {T:Nat→Prop} {a w w':World} {row:Option Nat} (h:AK T a w) (hg:w.grownBy w' row) (hr:∀k,row=some k→k<a.heap.size→T k):AK T a w':=
 h.trans (T1:=fun b=>row=some b) ⟨hg.os,hg.tape,hg.output,hg.size,fun k hk hn=>hg.block k hk (fun e=>hn e.symm)⟩ (fun x hx e=>hr x e hx)
theorem AK.below {T:Nat→Prop} {B:Nat} {w w':World} (h:AK T w w') (hB:B≤w.heap.size) (hT:∀b,T b→B≤b):Below B w w':=
 ⟨h.os,h.tape,h.output,h.size,fun k hk=>h.block k (by omega) (fun ht=>by have:=hT k ht;omega)⟩
theorem AK.weaken {T T':Nat→Prop} {w w':World} (h:AK T w w') (hT:∀b,b<w.heap.size→T b→T' b):AK T' w w':=
 ⟨h.os,h.tape,h.output,h.size,fun b hb hn=>h.block b hb (fun ht=>hn (hT b hb ht))⟩
theorem AK.cell {T:Nat→Prop} {w w':World} (h:AK T w w') {p:Addr} {v:Value} (hc:w.cell? p=some v) (hT:¬T p.block):w'.cell? p=some v:=
 (World.cell?_of_block (h.block _ (World.block_lt_of_cell? w p hc) hT)).trans hc
theorem Dp {B:Nat} {w w':World} (h:Below B w w'):AK (fun b=>B≤b) w w':=
 ⟨h.os,h.tape,h.output,h.size,fun b _ hn=>h.block b (by omega)⟩
def In (R:World→Prop) (x:World):Prop:=R x
structure SL (w:World) (R:World→Prop):Prop where
 below:∀x,In R x→Below w.heap.size w x
 alloc:∀x o,In R x→In R (x.alloc o)
 drew:∀x,In R x→In R x.drew
 drewN:∀x n,In R x→In R (x.drewN n)
 next:∀x y,In R x→Below x.heap.size x y→In R y
theorem Ib (w w1:World) (N:Nat) (hN:w.heap.size≤N) (h1:N≤w1.heap.size) (hb:Below w.heap.size w w1):SL w (fun x=>Below N w1 x) where
 below x h:=hb.trans (Below.mono h hN)
 alloc x o h:=Below.alloc h (Nat.le_trans h1 (Below.size h)) o
 drew x h:=Below.drew h
 drewN x n h:=Below.trans h (⟨rfl,rfl,rfl,Nat.le_refl _,fun _ _=>rfl⟩:Below N x (x.drewN n))
 next x y h h':=Below.trans h (h'.mono (Nat.le_trans h1 (Below.size h)))
theorem Av (w:World):∃R:World→Prop,SL w R∧In R w∧(∀x,Below w.heap.size w x→In R x):=
 ⟨_,Ib w w _ (Nat.le_refl _) (Nat.le_refl _) (Below.refl _ _),Below.refl _ _,fun _ h=>h⟩
theorem BO (w:World) (cs:Array Value) (t:TypeId):∃R:World→Prop,SL w R∧In R (w.alloc (.cells cs t))∧∀j v,cs[j]?=some v→∀x,In R x→x.cell? ⟨w.heap.size,j,none⟩=some v:=by
 refine⟨_,Ib w (w.alloc (.cells cs t)) (w.heap.size+1) (by omega) (by simp) ((Below.refl _ _).alloc (Nat.le_refl _) _),Below.refl _ _,fun j v hv x hx=>?_⟩;rw[Below.cell hx (p:=⟨w.heap.size,j,none⟩) (by simp)];rw[World.cell?_alloc_at _ _ _ _ rfl];exact hv
theorem Ev (w:World) (v0 v1 v2 v3:Value) (t:TypeId):∃R:World→Prop,SL w R∧In R (w.alloc (.cells #[v0,v1,v2,v3] t))∧
  (∀x,In R x→x.cell? ⟨w.heap.size,0,none⟩=some v0)∧(∀x,In R x→x.cell? ⟨w.heap.size,1,none⟩=some v1)∧
  (∀x,In R x→x.cell? ⟨w.heap.size,2,none⟩=some v2)∧(∀x,In R x→x.cell? ⟨w.heap.size,3,none⟩=some v3):=
 let⟨R,hR,h1,h⟩:=BO w #[v0,v1,v2,v3] t
 ⟨R,hR,h1,h 0 v0 rfl,h 1 v1 rfl,h 2 v2 rfl,h 3 v3 rfl⟩
variable [Ghost]
structure Obj where
 id:Int
 kind:Int
 links:List Int
 text:ByteArray
def aI:Obj:=⟨0,0,[],ByteArray.empty⟩
def Ct (xs:List Int) (i:Nat):Int:=at_ 0 xs i
def obj (l:List Obj) (i:Nat):Obj:=at_ aI l i
theorem DV {l:List Int} {i:Nat} (h:i<l.length):Ct l i=l[i]:=Ni h
theorem Dm {l:List Obj} {i:Nat} (h:i<l.length):obj l i=l[i]:=Ni h
def Bb (S:Nat→Prop) (w:World) (v:Value) (xs:List Int):Prop:=
 Sl S w v 1 8 xs.length (fun i=>[.int .i64 (Ct xs i)])∧∀x∈xs,Dy x
theorem Bb.below {S:Nat→Prop} {w w':World} {v:Value} {xs:List Int} (h:Bb S w v xs) (hb:Below w.heap.size w w'):Bb S w' v xs:=⟨h.1.below hb,h.2⟩
theorem Bb.weaken {S S':Nat→Prop} {w:World} {v:Value} {xs:List Int} (h:Bb S w v xs) (hs:∀b,S b→S' b):Bb S' w v xs:=⟨h.1.weaken hs,h.2⟩
theorem Bb.same {S:Nat→Prop} {w w':World} {v:Value} {xs:List Int} (h:Bb S w v xs) (hs:Km S w w'):Bb S w' v xs:=⟨h.1.same hs,h.2⟩
theorem Bb.i64 {S:Nat→Prop} {w:World} {v:Value} {xs:List Int} (h:Bb S w v xs) (i:Nat) (hi:i<xs.length):Dy (Ct xs i):=h.2 _ (Ko hi)
theorem Bb.open {S:Nat→Prop} {w:World} {v:Value} {xs:List Int} (h:Bb S w v xs):
  ∃a n cap,Hid (n=xs.length)∧v=.slice a n cap∧n≤cap∧cap≤9223372036854775807∧n*8≤140737488351232∧
   (0<n→∃b off,a=some ⟨b,off,none⟩∧S b∧∀i x,i<n→Below w.heap.size w x→x.cell? ⟨b,off+i,none⟩=some (.int .i64 (Ct xs i))):=by
 obtain⟨a,cap,hv,h1,h2,h3,h4⟩:=h.1;refine⟨a,xs.length,cap,rfl,hv,h1,h2,h3,fun hn=>?_⟩;obtain⟨b,off,ha,hS,hc⟩:=h4 hn;exact⟨b,off,ha,hS.1,fun i x hi hb=>by have:=Ae hb (hc i hi 0 _ rfl);simpa using this⟩
theorem Bb.nil (S:Nat→Prop) (w:World) (cap:Nat) (a:Option Addr) (h:cap≤9223372036854775807):Bb S w (.slice a 0 cap) []:=
 ⟨⟨a,cap,rfl,Nat.zero_le _,h,by simp,fun h=>absurd h (by simp)⟩,fun x hx=>by cases hx⟩
theorem Bb.mk {S:Nat→Prop} {w:World} {xs:List Int} {b off cap:Nat} (h1:xs.length≤cap) (h2:cap≤9223372036854775807) (h3:xs.length*8≤140737488351232) (hS:SF S w b off xs.length)
  (hc:∀i,i<xs.length→w.cell? ⟨b,off+i,none⟩=some (.int .i64 (Ct xs i))) (hi:∀x∈xs,Dy x):Bb S w (.slice (some ⟨b,off,none⟩) xs.length cap) xs:=
 ⟨⟨_,cap,rfl,h1,h2,h3,fun _=>⟨b,off,rfl,by rw[Nat.mul_one];exact hS,fun i hn j u hu=>by
  match j,hu with
  |0,hu=>simp at hu;subst hu;simpa using hc i hn⟩⟩,hi⟩
def AG (o:Obj) (lv:Value):List Value:=[.int .i64 o.id,.int .i64 o.kind,lv,.string o.text]
def Bu (S:Nat→Prop) (w:World) (o:Obj) (lv:Value):Prop:=Bb S w lv o.links∧Dy o.id∧Dy o.kind∧o.text.size≤140737488351232
theorem Bu.below {S:Nat→Prop} {w w':World} {o:Obj} {lv:Value} (h:Bu S w o lv) (hb:Below w.heap.size w w'):Bu S w' o lv:=⟨h.1.below hb,h.2⟩
theorem Bu.weaken {S S':Nat→Prop} {w:World} {o:Obj} {lv:Value} (h:Bu S w o lv) (hs:∀b,S b→S' b):Bu S' w o lv:=⟨h.1.weaken hs,h.2⟩
theorem Bu.same {S:Nat→Prop} {w w':World} {o:Obj} {lv:Value} (h:Bu S w o lv) (hs:Km S w w'):Bu S w' o lv:=⟨h.1.same hs,h.2⟩
def Ai (S:Nat→Prop) (w:World) (v:Value) (l:List Obj):Prop:=
 ∃lvs:Nat→Value,Sl S w v 4 56 l.length (fun i=>AG (obj l i) (lvs i))∧∀i,i<l.length→Bu S w (obj l i) (lvs i)
theorem Ai.below {S:Nat→Prop} {w w':World} {v:Value} {l:List Obj} (h:Ai S w v l) (hb:Below w.heap.size w w'):Ai S w' v l:=
 let⟨lvs,h1,h2⟩:=h;⟨lvs,h1.below hb,fun i hi=>(h2 i hi).below hb⟩
theorem Ai.weaken {S S':Nat→Prop} {w:World} {v:Value} {l:List Obj} (h:Ai S w v l) (hs:∀b,S b→S' b):Ai S' w v l:=
 let⟨lvs,h1,h2⟩:=h;⟨lvs,h1.weaken hs,fun i hi=>(h2 i hi).weaken hs⟩
theorem Ai.same {S:Nat→Prop} {w w':World} {v:Value} {l:List Obj} (h:Ai S w v l) (hs:Km S w w'):Ai S w' v l:=
 let⟨lvs,h1,h2⟩:=h;⟨lvs,h1.same hs,fun i hi=>(h2 i hi).same hs⟩
theorem Ai.nil (S:Nat→Prop) (w:World) (cap:Nat) (a:Option Addr) (h:cap≤9223372036854775807):Ai S w (.slice a 0 cap) []:=
 ⟨fun _=>.nilFunc,⟨a,cap,rfl,Nat.zero_le _,h,by simp,fun h=>absurd h (by simp)⟩,fun i hi=>by simp at hi⟩
theorem Bb.shape {S:Nat→Prop} {w:World} {v:Value} {xs:List Int} (h:Bb S w v xs):∃p:Option Addr×Nat,v=.slice p.1 xs.length p.2:=
 let⟨a,cap,hv,_⟩:=h.1;⟨(a,cap),hv⟩
theorem Ai.open {S:Nat→Prop} {w:World} {v:Value} {l:List Obj} (h:Ai S w v l):
  ∃a n cap,∃la:Nat→Option Addr,∃ln lc:Nat→Nat,Hid (n=l.length∧∀i,ln i=(obj l i).links.length)∧v=.slice a n cap∧n≤cap∧cap≤9223372036854775807∧n*56≤140737488351232∧
   (0<n→∃b off,a=some ⟨b,off,none⟩∧S b∧
    (∀i x,i<n→Below w.heap.size w x→x.cell? ⟨b,off+i*4,none⟩=some (.int .i64 (obj l i).id))∧
    (∀i x,i<n→Below w.heap.size w x→x.cell? ⟨b,off+i*4+1,none⟩=some (.int .i64 (obj l i).kind))∧
    (∀i x,i<n→Below w.heap.size w x→x.cell? ⟨b,off+i*4+2,none⟩=some (.slice (la i) (ln i) (lc i)))∧
    (∀i x,i<n→Below w.heap.size w x→x.cell? ⟨b,off+i*4+3,none⟩=some (.string (obj l i).text)))∧
   (∀i,i<n→Bu S w (obj l i) (.slice (la i) (ln i) (lc i))):=by
 obtain⟨lvs,h1,h2⟩:=h;have hp:∃p:Nat→Option Addr×Nat,∀i,i<l.length→lvs i=.slice (p i).1 (obj l i).links.length (p i).2:=by
  refine⟨fun i=>if hi:i<l.length then Classical.choose (h2 i hi).1.shape else(none,0),fun i hi=>?_⟩;simp only[hi,dif_pos];exact Classical.choose_spec (h2 i hi).1.shape
 obtain⟨p,hp⟩:=hp;obtain⟨a,cap,hv,h3,h4,h5,h6⟩:=h1;refine⟨a,l.length,cap,fun i=>(p i).1,fun i=>(obj l i).links.length,fun i=>(p i).2,⟨rfl,fun _=>rfl⟩,hv,h3,h4,h5,fun hn=>?_,fun i hi=>hp i hi ▸ h2 i hi⟩;obtain⟨b,off,ha,hS,hc⟩:=h6 hn;refine⟨b,off,ha,hS.1,fun i x hi hb=>?_,fun i x hi hb=>?_,fun i x hi hb=>?_,fun i x hi hb=>?_⟩
 ·have:=Ae hb (hc i hi 0 _ rfl);simpa using this
 ·exact Ae hb (hc i hi 1 _ rfl)
 ·have:=Ae hb (hc i hi 2 _ rfl);rw[hp i hi] at this;exact this
 ·exact Ae hb (hc i hi 3 _ rfl)
end Go.Proofs.YtgbnlmplkealdaaGreatDoor
namespace Go.Proofs.YtgbnlmplkealdaaGreatDoor
variable [Ghost]
def An (f:Nat→Int):Nat→Int
 |0=>0
 |n+1=>if An f n=0 then f n else An f n
theorem BX {f:Nat→Int} {k n:Nat} (h0:An f k=0) (hf:f k≠0) (hk:k<n):An f n=f k:=by
 induction n with
 |zero=>omega
 | succ n ih=>
  by_cases h:k=n
  ·subst h;simp[An,h0]
  ·have:=ih (by omega)
   simp[An,this,hf]
theorem Ay {f:Nat→Int} {k:Nat} (h0:An f k=0) (hf:f k=0):An f (k+1)=0:=by simp[An,h0,hf]
theorem Bn {f:Nat→Int} {n:Nat} (h:An f n=0):∀k,k<n→f k=0:=by
 induction n with
 |zero=>intro k hk;omega
 | succ n ih=>
  intro k hk;by_cases h0:An f n=0
  ·simp[An,h0] at h
   by_cases e:k=n
   ·subst e;exact h
   ·exact ih h0 k (by omega)
  ·simp[An,h0] at h
theorem Bd {f:Nat→Int} {n:Nat} (h:∀k,k<n→f k=0):An f n=0:=by
 induction n with
 |zero=>rfl
 |succ n ih=>exact Ay (ih fun k hk=>h k (by omega)) (h n (by omega))
def within (n a b:Int):Bool:=decide (a≤n) && decide (n≤b)
theorem BH {n a b:Int} (h:within n a b=true):a≤n∧n≤b:=by simpa[within] using h
theorem DT {n a b:Int} (h:within n a b=false):¬(a≤n∧n≤b):=by
 intro h';simp[within,h'.1,h'.2] at h
def Cl (o:Obj) (i:Nat):Int:=
 if within (Ct o.links i) 1 (o.id-1)=false then 3
 else if(if o.kind=3 then 2 else 1)≤i∧Ct o.links i≤Ct o.links (i-1) then 4 else 0
def Ij (o:Obj):Bool:=(decide (o.kind=1) && decide (0<o.links.length))||(decide (o.kind=3) && decide (o.links.length=0))
def Cv (o:Obj):Int:=
 if An (Cl o) o.links.length≠0 then An (Cl o) o.links.length
 else if Ij o=true then 1 else 0
def Aw (o:Obj):Int:=
 if within o.id 1 99=false then 3
 else if within o.kind 1 3=false then 7
 else if 4<o.links.length∨8<o.text.size then 2
 else Cv o
theorem Dk {o:Obj} {k:Nat} {e:Int} (h0:An (Cl o) k=0) (hf:Cl o k=e) (he:e≠0) (hk:k<o.links.length):Cv o=e:=by
 have:=BX h0 (by omega) hk;unfold Cv;rw[this,hf,if_pos he]
theorem Gt {o:Obj} (h0:An (Cl o) o.links.length=0) (h:Ij o=true):Cv o=1:=by
 unfold Cv;rw[h0,if_neg (by simp),if_pos h]
theorem Jk {o:Obj} (h0:An (Cl o) o.links.length=0) (h:Ij o=false):Cv o=0:=by
 unfold Cv;rw[h0,if_neg (by simp),if_neg (by simp[h])]
theorem Gr {o:Obj} {k:Nat} (h:within (Ct o.links k) 1 (o.id-1)=false):Cl o k=3:=by simp[Cl,h]
theorem Gs {o:Obj} {k:Nat} (h:within (Ct o.links k) 1 (o.id-1)=true) (h1:(if o.kind=3 then 2 else 1)≤k) (h2:Ct o.links k≤Ct o.links (k-1)):Cl o k=4:=by
 simp only[Cl,h];simp[h1,h2]
theorem Kx {o:Obj} {k:Nat} (h:within (Ct o.links k) 1 (o.id-1)=true) (h1:¬((if o.kind=3 then 2 else 1)≤k∧Ct o.links k≤Ct o.links (k-1))):Cl o k=0:=by
 simp only[Cl,h];simp only[h1];simp
end Go.Proofs.YtgbnlmplkealdaaGreatDoor
namespace Go.Proofs.YtgbnlmplkealdaaGreatDoor
open Go.RowKit
variable [Ghost]
section
variable {w w':World} {base:Nat} {e:TypeId} {size:Nat} {v:Value} {n:Nat} {xs:List Value}
theorem JH (h:w.ownsRow base e size v n xs):∃a c,v=.slice a n c:=by
 rcases h.2 with⟨rfl,rfl⟩|⟨g,cap,cur,rfl,_⟩
 ·exact⟨_,_,rfl⟩
 ·exact⟨_,_,rfl⟩
theorem Gv (h:w.ownsRow base e size v n xs) {b:Nat} {cs:Array Value} {t:TypeId} {fz:Nat×Nat} (hb:w.heap[b]?=some (.cells cs t fz)) (hne:t≠e):v.ownBlock≠some b:=by
 intro hv;rcases h.2 with⟨rfl,rfl⟩|⟨g,cap,cur,rfl,_,hg,_⟩
 ·simp[Value.ownBlock] at hv
 ·simp[Value.ownBlock] at hv
  subst hv;rw[hg] at hb;simp at hb;exact hne hb.2.1.symm
theorem Iu (h:w.ownsRow base e size v n xs) {S:Nat→Prop} {bts:Nat} {cs:Nat→List Value} (hS:∀g,v.ownBlock=some g→S g) (hb:n*bts≤140737488351232)
  (hc:∀i,i<n→∀j u,(cs i)[j]?=some u→xs[i*size+j]?=some u):Sl S w v size bts n cs:=by
 obtain⟨h1,h2⟩:=h;rcases h2 with⟨rfl,rfl⟩|⟨g,cap,cur,rfl,_,hg,hn,hm,hs,ht⟩
 ·exact⟨none,0,rfl,Nat.le_refl _,by omega,hb,fun h=>absurd h (by omega)⟩
 ·refine⟨_,cap,rfl,hn,by simpa[maxLen] using hm,hb,fun hp=>⟨g,0,rfl,⟨hS g rfl,MX.of_block hg⟩,fun i hi j u hu=>?_⟩⟩
  have hx:=hc i hi j u hu;rw[cell_of_row w g _ cur e (0,0) hg];rw[←ht,List.getElem?_take] at hx;split at hx
  ·simpa using hx
  ·cases hx
theorem Lg (h:w.ownsRow base e size v n xs) {base':Nat} (hb:base'≤base):w.ownsRow base' e size v n xs:=by
 refine⟨h.1,?_⟩;rcases h.2 with h2|⟨g,cap,cur,hv,hg,r⟩
 ·exact .inl h2
 ·exact .inr ⟨g,cap,cur,hv,by omega,r⟩
end
def AN (cs:Nat→List Value):Nat→List Value
 |0=>[]
 |n+1=>AN cs n++cs n
theorem Bc {cs:Nat→List Value} {sz n:Nat} (h:∀i,i<n→(cs i).length=sz):(AN cs n).length=n*sz:=by
 induction n with
 |zero=>simp[AN]
 |succ n ih=>rw[AN,List.length_append,ih fun i hi=>h i (by omega),h n (by omega),Nat.succ_mul]
theorem CJ {cs:Nat→List Value} {sz n:Nat} (h:∀i,i<n→(cs i).length=sz):∀i,i<n→∀j u,(cs i)[j]?=some u→(AN cs n)[i*sz+j]?=some u:=by
 induction n with
 |zero=>intro i hi;omega
 | succ n ih=>
  intro i hi j u hu;have hl:=Bc (n:=n) fun i hi=>h i (by omega)
  have hj:j<sz:=by
   have:=h i hi;rcases Nat.lt_or_ge j (cs i).length with h'|h'
   ·omega
   ·rw[List.getElem?_eq_none h'] at hu;cases hu
  rw[AN];by_cases hin:i=n
  ·subst hin
   rw[List.getElem?_append_right (by omega),hl,Nat.add_sub_cancel_left];exact hu
  ·have hlt:i*sz+j<n*sz:=by
    have:=Nat.mul_le_mul_right sz (show i+1≤n by omega);rw[Nat.add_mul] at this;omega
   rw[List.getElem?_append_left (by omega)];exact ih (fun i hi=>h i (by omega)) i (by omega) j u hu
theorem Bi {cs ds:Nat→List Value} {n:Nat} (h:∀i,i<n→cs i=ds i):AN cs n=AN ds n:=by
 induction n with
 |zero=>rfl
 |succ n ih=>rw[AN,AN,ih fun i hi=>h i (by omega),h n (by omega)]
theorem TV (w:World) (cs:Nat→List Value) (sz bts n:Nat) (t:TypeId) (N:Nat) (hN:N=w.heap.size) (h:∀i,i<n→(cs i).length=sz) (hl:n*bts≤140737488351232) (hn:n≤9223372036854775807):
  Sl (fun b=>b=N) (w.alloc (.cells (AN cs n).toArray t)) (.slice (some ⟨N,0,none⟩) n n) sz bts n cs:=by
 subst hN;refine⟨_,n,rfl,Nat.le_refl _,hn,hl,fun _=>⟨_,0,rfl,⟨rfl,MX.of_block (heap_alloc_new w _)⟩,fun i hi j u hu=>?_⟩⟩;rw[World.cell?_alloc_at _ _ _ _ rfl,Nat.zero_add];simpa using CJ h i hi j u hu
variable [Ghost]
theorem Bb.lt {S:Nat→Prop} {w:World} {v:Value} {xs:List Int} (h:Bb S w v xs):Bb (fun b=>S b∧b<w.heap.size) w v xs:=by
 obtain⟨⟨a,cap,hv,h1,h2,h3,h4⟩,h5⟩:=h;refine⟨⟨a,cap,hv,h1,h2,h3,fun hn=>?_⟩,h5⟩;obtain⟨b,off,ha,hS,hc⟩:=h4 hn;exact⟨b,off,ha,⟨⟨hS.1,World.block_lt_of_cell? w _ (hc 0 hn 0 _ rfl)⟩,hS.2⟩,hc⟩
theorem GN (w:World) (xs:List Int) (t:TypeId) (N:Nat) (hN:N=w.heap.size) (hl:xs.length*8≤140737488351232) (hi:∀x∈xs,Dy x):
  Bb (fun b=>b=N) (w.alloc (.cells (xs.map (Value.int .i64)).toArray t)) (.slice (some ⟨N,0,none⟩) xs.length xs.length) xs:=by
 subst hN;refine Bb.mk (Nat.le_refl _) (by omega) hl ⟨rfl,MX.of_block (heap_alloc_new w _)⟩ (fun i hn=>?_) hi;rw[World.cell?_alloc_at _ _ _ _ rfl];simp only[List.getElem?_toArray,List.getElem?_map];simp[List.getElem?_eq_getElem hn,DV hn]
theorem VT {S:Nat→Prop} (w:World) (l:List Obj) (lvs:Nat→Value) (t:TypeId) (N:Nat) (hN:N=w.heap.size) (hl:l.length*56≤140737488351232)
  (h:∀i,i<l.length→Bu S w (obj l i) (lvs i)):
  Ai (fun b=>b=N∨S b) (w.alloc (.cells (AN (fun i=>AG (obj l i) (lvs i)) l.length).toArray t)) (.slice (some ⟨N,0,none⟩) l.length l.length) l:=
 ⟨lvs,(TV w _ 4 56 _ t N hN (fun _ _=>rfl) hl (by omega)).weaken fun b hb=>.inl hb,
  fun i hi=>((h i hi).below ((Below.refl _ _).alloc (Nat.le_refl _) _)).weaken fun b hb=>.inr hb⟩
variable [Ghost]
def b8 (n:Int):Int:=n % 256
theorem Fb {o:Obj} (h:Aw o=0):(1≤o.id∧o.id≤99)∧(1≤o.kind∧o.kind≤3)∧o.links.length≤4∧o.text.size≤8∧Cv o=0:=by
 unfold Aw at h;cases h1:within o.id 1 99<;>simp[h1] at h
 cases h2:within o.kind 1 3<;>simp[h2] at h
 by_cases h3:4<o.links.length∨8<o.text.size
 ·simp[h3] at h
 ·simp only[h3,if_false] at h
  exact⟨BH h1,BH h2,by omega,by omega,h⟩
theorem BI {w:World} {R:World→Prop} (hR:SL w R):∀(x:World) (d:Nat) (os:Array Go.Obj),In R x→In R (Go.Sort.grow (redrawn x d) os):=
 fun x d os h=>hR.next x _ h (below_regrown x d os)
end Go.Proofs.YtgbnlmplkealdaaGreatDoor
namespace Go.Proofs.YtgbnlmplkealdaaGreatDoor
variable [Ghost]
theorem By {p:Nat→Prop} {k:Nat} (h:∀j,j<k→p j) (hk:p k):∀j,j<k+1→p j:=fun j hj=>by
 rcases Nat.lt_or_ge j k with h'|h'
 ·exact h j h'
 ·have e:j=k:=by omega
  subst e;exact hk
def CV (xs ys:List Int):Bool:=decide (xs=ys)
theorem Lo {xs ys:List Int} (h:xs.length≠ys.length):CV xs ys=false:=by
 simp only[CV,decide_eq_false_iff_not];intro e;exact h (by rw[e])
theorem MD {xs ys:List Int} {k:Nat} (h:Ct xs k≠Ct ys k):CV xs ys=false:=by
 simp only[CV,decide_eq_false_iff_not];intro e;exact h (by rw[e])
theorem Ln {xs ys:List Int} (hl:xs.length=ys.length) (h:∀k,k<xs.length→Ct xs k=Ct ys k):CV xs ys=true:=by
 simp only[CV,decide_eq_true_eq];apply List.ext_getElem hl
 intro i h1 h2;have:=h i h1
 rwa [DV h1,DV h2] at this
theorem BL (a b:ByteArray):(a.toList==b.toList)=decide (a=b):=by
 rw[ByteArray.toList_eq,ByteArray.toList_eq];by_cases h:a=b
 ·subst h;simp
 ·have h2:¬(a.data.toList=b.data.toList):=fun e=>h (by cases a;cases b;congr;exact Array.toList_inj.1 e)
  rw[decide_eq_false h];exact beq_eq_false_iff_ne.2 h2
def BG (a b:Obj):Bool:=(a.id==b.id) && (a.kind==b.kind) && (a.text.toList==b.text.toList) && CV a.links b.links
theorem DK (a b:Obj):BG a b=true↔a=b:=by
 unfold BG;rw[BL];simp only[Bool.and_eq_true,beq_iff_eq,decide_eq_true_eq,CV];constructor
 ·rintro⟨⟨⟨h1,h2⟩,h3⟩,h4⟩;cases a;cases b;simp_all
 ·rintro rfl;simp
end Go.Proofs.YtgbnlmplkealdaaGreatDoor
namespace Go.Proofs.YtgbnlmplkealdaaGreatDoor
open Go.RowKit
variable [Ghost]
def IM (s:ByteArray) (k:Nat):ByteArray:=s.extract k s.size
def sub (s:ByteArray) (k n:Nat):ByteArray:=s.extract k (k+n)
def EL (s:ByteArray) (k:Nat):Int:=((s.data.toList.getD k 0).toNat:Int)
theorem UJ (s:ByteArray) (k:Nat):0≤EL s k∧EL s k≤255:=by
 unfold EL;have:=(s.data.toList.getD k 0).toNat_lt;omega
theorem YM {s:ByteArray} {k:Nat} (h:k<s.size):((s[k]'h).toNat:Int)=EL s k:=by
 unfold EL;have h':k<s.data.toList.length:=by simpa using h
 rw[List.getD_eq_getElem?_getD,List.getElem?_eq_getElem h'];rfl
variable [Ghost]
def ZV (s:ByteArray):Nat:=(EL s 2).toNat
def aW (s:ByteArray):Nat:=(EL s (3+ZV s)).toNat
def ZF (s:ByteArray):Prop:=3≤s.size∧4+ZV s≤s.size∧4+ZV s+aW s≤s.size
theorem Ah {w:World} {b j:Nat} {cs:Array Value} {t:TypeId} {fz:Nat×Nat} (h:w.heap[b]?=some (.cells cs t fz)) (v:Value):
  (w.setCell ⟨b,j,none⟩ v).heap[b]?=some (.cells (cs.setIfInBounds j v) t fz):=by
 simp[World.setCell,Array.getElem?_modify,h]
theorem Aa {w:World} {b j:Nat} {cs:Array Value} {t:TypeId} {fz:Nat×Nat} (h:w.heap[b]?=some (.cells cs t fz)) {v:Value} (hv:cs[j]?=some v):w.cell? ⟨b,j,none⟩=some v:=by
 simp[World.cell?,h,hv]
theorem Ad {w:World} {b j:Nat} {cs:Array Value} {t:TypeId} (h:w.heap[b]?=some (.cells cs t (0,0))):w.frozen? ⟨b,j,none⟩=false:=by
 simp[World.frozen?,h]
theorem AK.blk {T:Nat→Prop} {w w':World} (h:AK T w w') {b:Nat} {o:Go.Obj} (hb:w.heap[b]?=some o) (hT:¬T b):w'.heap[b]?=some o:=by
 rw[h.block b (lt_of_block hb) hT];exact hb
theorem Fx {T:Nat→Prop} {w w':World} {base:Nat} {e:TypeId} {size:Nat} {v:Value} {n:Nat} {xs:List Value} (h:w.ownsRow base e size v n xs) (hu:AK T w w') (hT:∀g,v.ownBlock=some g→¬T g):w'.ownsRow base e size v n xs:=by
 refine⟨h.1,?_⟩;rcases h.2 with h2|⟨g,cap,cur,rfl,hg,hh,r⟩
 ·exact .inl h2
 ·exact .inr ⟨g,cap,cur,rfl,hg,hu.blk hh (hT g rfl),r⟩
end Go.Proofs.YtgbnlmplkealdaaGreatDoor
namespace Go.Proofs.YtgbnlmplkealdaaGreatDoor
variable [Ghost]
def AC (l:List Obj) (id:Int):Int:=match l.find? (fun o=>o.id==id) with|some o=>o.kind|none=>0
def Kn (l:List Obj) (id:Int):Int:=match l.findIdx? (fun o=>o.id==id) with|some i=>(i:Int)|none=>-1
theorem Xq {l:List Obj} {id:Int} {k:Nat} (h:∀j,j<k→(obj l j).id≠id) (hk:k<l.length) (he:(obj l k).id=id):l.find? (fun o=>o.id==id)=some (obj l k):=by
 induction l generalizing k with
 |nil=>simp at hk
 | cons a l ih=>
  cases k with
  |zero=>
   have:a.id=id:=he;simp[List.find?_cons,this];rfl
  |succ k=>
   have h0:a.id≠id:=h 0 (by omega);have hne:(a.id==id)=false:=by simpa using h0
   rw[List.find?_cons,hne];exact ih (fun j hj=>h (j+1) (by omega)) (by simpa using hk) he
theorem Vg {l:List Obj} {id:Int} (h:∀j,j<l.length→(obj l j).id≠id):l.find? (fun o=>o.id==id)=none:=by
 rw[List.find?_eq_none];intro x hx;obtain⟨i,hi,rfl⟩:=List.getElem_of_mem hx;have:=h i hi;rw[Dm hi] at this;simpa using this
theorem NS {l:List Obj} {id:Int} {k:Nat} (h:∀j,j<k→(obj l j).id≠id) (hk:k<l.length) (he:(obj l k).id=id):AC l id=(obj l k).kind:=by
 unfold AC;rw[Xq h hk he]
theorem Jh {l:List Obj} {id:Int} (h:∀j,j<l.length→(obj l j).id≠id):AC l id=0:=by
 unfold AC;rw[Vg h]
theorem YW {l:List Obj} {id:Int} {k:Nat} (h:∀j,j<k→(obj l j).id≠id) (hk:k<l.length) (he:(obj l k).id=id):l.findIdx? (fun o=>o.id==id)=some k:=by
 rw[List.findIdx?_eq_some_iff_getElem];refine⟨hk,by rw[←Dm hk];simpa using he,fun j hj=>?_⟩;have:=h j hj;rw[Dm (by omega)] at this;simpa using this
theorem Rh {l:List Obj} {id:Int} {k:Nat} (h:∀j,j<k→(obj l j).id≠id) (hk:k<l.length) (he:(obj l k).id=id):Kn l id=k:=by
 unfold Kn;rw[YW h hk he]
theorem LJ {l:List Obj} {id:Int} (h:∀j,j<l.length→(obj l j).id≠id):Kn l id=-1:=by
 unfold Kn;have:l.findIdx? (fun o=>o.id==id)=none:=by
  rw[List.findIdx?_eq_none_iff];intro x hx;obtain⟨i,hi,rfl⟩:=List.getElem_of_mem hx;have:=h i hi;rw[Dm hi] at this;simpa using this
 rw[this]
def AD (l:List Obj):Prop:=∀i j,i<j→j<l.length→(obj l i).id<(obj l j).id
theorem Ox {l:List Obj} {n:Nat} (hn:n≤l.length) (h:∀i,i+1<n→(obj l i).id<(obj l (i+1)).id):∀i j,i<j→j<n→(obj l i).id<(obj l j).id:=by
 intro i j hij
 induction j with
 |zero=>omega
 |succ j ih=>
  intro hj;have h1:=h j hj;by_cases e:i=j
  ·subst e;exact h1
  ·have:=ih (by omega) (by omega);omega
theorem FQ {l:List Obj} {i n:Nat} (h:i<n):obj (l.take n) i=obj l i:=by
 unfold obj at_;simp only[List.getD_eq_getElem?_getD,List.getElem?_take,h,if_true]
theorem Su {l:List Obj} {n:Nat} (h:∀i j,i<j→j<n→(obj l i).id<(obj l j).id):AD (l.take n):=by
 intro i j hij hj;have hj':j<n:=by simp at hj;omega
 rw[FQ (by omega),FQ hj'];exact h i j hij hj'
theorem AD.take {l:List Obj} (h:AD l) (n:Nat):AD (l.take n):=by
 intro i j hij hj;simp at hj;rw[FQ (by omega),FQ (by omega)];exact h i j hij (by omega)
def lo (l:List Obj) (id:Int):Nat:=l.countP (fun o=>decide (o.id<id))
theorem PM (l:List Obj) (id:Int):lo l id≤l.length:=List.countP_le_length
theorem XG {l:List Obj} {id:Int} {i:Nat} (hi:i≤l.length) (h1:∀j,j<i→(obj l j).id<id) (h2:∀j,i≤j→j<l.length→id≤(obj l j).id):lo l id=i:=by
 unfold lo
 conv=>lhs;rw[←List.take_append_drop i l]
 rw[List.countP_append];have a1:(l.take i).countP (fun o=>decide (o.id<id))=(l.take i).length:=by
  rw[List.countP_eq_length];intro x hx;obtain⟨j,hj,rfl⟩:=List.getElem_of_mem hx;simp at hj;have:=h1 j (by omega);rw[Dm (by omega)] at this;simpa using this
 have a2:(l.drop i).countP (fun o=>decide (o.id<id))=0:=by
  rw[List.countP_eq_zero];intro x hx;obtain⟨j,hj,rfl⟩:=List.getElem_of_mem hx;simp at hj;have:=h2 (i+j) (by omega) (by omega);rw[Dm (by omega)] at this;simpa using this
 rw[a1,a2];simp;omega
theorem AD.lo_lt {l:List Obj} (h:AD l) {id:Int}:∀j,j<lo l id→(obj l j).id<id:=by
 induction l with
 |nil=>intro j hj;simp[lo] at hj
 | cons a l ih=>
  have hl:AD l:=fun i j hij hj=>h (i+1) (j+1) (by omega) (by simpa using hj)
  intro j hj;by_cases ha:a.id<id
  ·have e:lo (a::l) id=lo l id+1:=by unfold lo;rw[List.countP_cons];simp[ha]
   cases j with
   |zero=>exact ha
   |succ j=>exact ih hl j (by omega)
  ·have e:lo (a::l) id=0:=by
    refine XG (by omega) (fun j hj=>by omega) (fun j _ hj=>?_);cases j with
    |zero=>show id≤a.id;omega
    |succ j=>have:a.id<(obj (a::l) (j+1)).id:=h 0 (j+1) (by omega) hj;omega
   omega
theorem AD.lo_ge {l:List Obj} (h:AD l) {id:Int}:∀j,lo l id≤j→j<l.length→id≤(obj l j).id:=by
 induction l with
 |nil=>intro j _ hj;simp at hj
 | cons a l ih=>
  have hl:AD l:=fun i j hij hj=>h (i+1) (j+1) (by omega) (by simpa using hj)
  intro j hlo hj;by_cases ha:a.id<id
  ·have e:lo (a::l) id=lo l id+1:=by unfold lo;rw[List.countP_cons];simp[ha]
   cases j with
   |zero=>omega
   |succ j=>exact ih hl j (by omega) (by simpa using hj)
  ·cases j with
   |zero=>show id≤a.id;omega
   |succ j=>have:a.id<(obj (a::l) (j+1)).id:=h 0 (j+1) (by omega) hj;omega
def CO (l:List Obj) (id:Int):Bool:=decide (lo l id<l.length) && decide ((obj l (lo l id)).id=id)
theorem AD.kind {l:List Obj} (h:AD l) (id:Int):AC l id=if CO l id then(obj l (lo l id)).kind else 0:=by
 unfold CO;by_cases h1:lo l id<l.length
 ·by_cases h2:(obj l (lo l id)).id=id
  ·rw[NS (k:=lo l id) (fun j hj=>by have:=h.lo_lt j hj;omega) h1 h2];simp[h1,h2]
  ·rw[Jh fun j hj=>?_]
   ·simp[h2]
   ·rcases Nat.lt_or_ge j (lo l id) with hj'|hj'
    ·have:=h.lo_lt j hj';omega
    ·by_cases e:j=lo l id
     ·subst e;exact h2
     ·have a:=h (lo l id) j (by omega) hj
      have b:=h.lo_ge (lo l id) (Nat.le_refl _) h1;omega
 ·rw[Jh fun j hj=>by have:=h.lo_lt (id:=id) j (by omega);omega];simp[h1]
theorem AD.at_ {l:List Obj} (h:AD l) (id:Int):Kn l id=if CO l id then(lo l id:Int) else -1:=by
 unfold CO;by_cases h1:lo l id<l.length
 ·by_cases h2:(obj l (lo l id)).id=id
  ·rw[Rh (k:=lo l id) (fun j hj=>by have:=h.lo_lt j hj;omega) h1 h2];simp[h1,h2]
  ·rw[LJ fun j hj=>?_]
   ·simp[h2]
   ·rcases Nat.lt_or_ge j (lo l id) with hj'|hj'
    ·have:=h.lo_lt j hj';omega
    ·by_cases e:j=lo l id
     ·subst e;exact h2
     ·have a:=h (lo l id) j (by omega) hj
      have b:=h.lo_ge (lo l id) (Nat.le_refl _) h1;omega
 ·rw[LJ fun j hj=>by have:=h.lo_lt (id:=id) j (by omega);omega];simp[h1]
def Bk (o:Obj) (k:Nat) (kind:Int):Int:=
 if kind=0 then 5
 else if(if o.kind=3 then(kind=2∧k=0)∨(kind=3∧0<k) else kind=1∨kind=2) then 0 else 7
def Co (l:List Obj) (i:Nat):Int:=
 if Aw (obj l i)≠0 then Aw (obj l i)
 else if 0<i∧(obj l i).id≤(obj l (i-1)).id then 4
 else An (fun k=>Bk (obj l i) k (AC (l.take i) (Ct (obj l i).links k))) (obj l i).links.length
def Aj (l:List Obj):Int:=if 40<l.length then 2 else An (Co l) l.length
theorem Of {l:List Obj} {i:Nat} (h:Aw (obj l i)≠0):Co l i=Aw (obj l i):=by unfold Co;rw[if_pos h]
theorem Le {l:List Obj} {i:Nat} (h:Aw (obj l i)=0) (h1:0<i) (h2:(obj l i).id≤(obj l (i-1)).id):Co l i=4:=by
 unfold Co;rw[if_neg (by simp[h]),if_pos ⟨h1,h2⟩]
theorem It {l:List Obj} {i:Nat} (h:Aw (obj l i)=0) (h1:0<i→(obj l (i-1)).id<(obj l i).id):
  Co l i=An (fun k=>Bk (obj l i) k (AC (l.take i) (Ct (obj l i).links k))) (obj l i).links.length:=by
 unfold Co;rw[if_neg (by simp[h]),if_neg (fun h'=>by have:=h1 h'.1;omega)]
theorem Gf {l:List Obj} {i:Nat} (h:Co l i=0):Aw (obj l i)=0∧(0<i→(obj l (i-1)).id<(obj l i).id)∧
  ∀k,k<(obj l i).links.length→Bk (obj l i) k (AC (l.take i) (Ct (obj l i).links k))=0:=by
 unfold Co at h;by_cases h1:Aw (obj l i)=0
 ·rw[if_neg (by simp[h1])] at h
  by_cases h2:0<i∧(obj l i).id≤(obj l (i-1)).id
  ·rw[if_pos h2] at h;exact absurd h (by decide)
  ·rw[if_neg h2] at h
   exact⟨h1,fun hi=>by omega,Bn h⟩
 ·rw[if_pos h1] at h;exact absurd h h1
theorem IZ {l:List Obj} {i:Nat} {e:Int} (hn:l.length≤40) (h0:An (Co l) i=0) (hi:i<l.length) (he:Co l i=e) (hne:e≠0):Aj l=e:=by
 unfold Aj;rw[if_neg (by omega),BX h0 (by rw[he];exact hne) hi,he]
theorem JW {l:List Obj} (hn:l.length≤40) (h0:An (Co l) l.length=0):Aj l=0:=by
 unfold Aj;rw[if_neg (by omega),h0]
theorem IF {l:List Obj} (hn:40<l.length):Aj l=2:=by unfold Aj;rw[if_pos hn]
theorem MI {l:List Obj} {n:Nat} (hn:n≤l.length) (h:An (Co l) n=0):AD (l.take n):=
 Su (Ox hn fun i hi=>by
  have:=(Gf (Bn h (i+1) hi)).2.1 (by omega);simpa using this)
theorem VP {l:List Obj} {n:Nat} (hn:n≤l.length) (h:An (Co l) n=0) (id:Int):AC (l.take n) id=0∨AC (l.take n) id=1∨AC (l.take n) id=2∨AC (l.take n) id=3:=by
 unfold AC;cases hf:(l.take n).find? (fun o=>o.id==id) with
 |none=>exact .inl rfl
 |some o=>
  have hm:=List.mem_of_find?_eq_some hf;obtain⟨i,hi,rfl⟩:=List.getElem_of_mem hm;simp at hi;have h1:=(Gf (Bn h i (by omega))).1;rw[Dm (by omega)] at h1;obtain⟨_,h2,_⟩:=Fb h1;simp only[List.getElem_take];omega
theorem BB {l:List Obj} (h:Aj l=0):l.length≤40∧An (Co l) l.length=0:=by
 unfold Aj at h;by_cases h1:40<l.length
 ·rw[if_pos h1] at h;exact absurd h (by decide)
 ·rw[if_neg h1] at h;exact⟨by omega,h⟩
theorem AS {l:List Obj} (h:Aj l=0):AD l:=by
 have:=MI (Nat.le_refl _) (BB h).2
 rwa [List.take_length] at this
end Go.Proofs.YtgbnlmplkealdaaGreatDoor
namespace Go.Proofs.YtgbnlmplkealdaaGreatDoor
open Go.RowKit
variable [Ghost]
def EN (o:Obj) (par:Bool):List Int:=if par then o.links.drop 1 else o.links
def Fc (l:List Obj) (par:Bool) (i j:Nat):Bool:=decide (j<l.length) && (EN (obj l i) par).any (fun x=>x==(obj l j).id)
inductive Rch (l:List Obj) (par:Bool):Nat→Nat→Prop
 |refl (i:Nat):Rch l par i i
 |step {i j k:Nat}:Fc l par i j=true→Rch l par j k→Rch l par i k
theorem Rch.trans {l:List Obj} {par:Bool} {i j k:Nat} (h:Rch l par i j) (h':Rch l par j k):Rch l par i k:=by
 induction h with
 |refl=>exact h'
 |step e _ ih=>exact .step e (ih h')
theorem Rch.snoc {l:List Obj} {par:Bool} {i j k:Nat} (h:Rch l par i j) (e:Fc l par j k=true):Rch l par i k:=h.trans (.step e (.refl _))
structure Right (l:List Obj):Prop where
 rising:AD l
 each:∀i,i<l.length→Aw (obj l i)=0
 link:∀i,i<l.length→∀k,k<(obj l i).links.length→Bk (obj l i) k (AC (l.take i) (Ct (obj l i).links k))=0
 many:l.length≤40
theorem GR {l:List Obj} (h:Aj l=0):Right l:=by
 obtain⟨h1,h2⟩:=BB h;exact⟨AS h,fun i hi=>(Gf (Bn h2 i hi)).1,fun i hi=>(Gf (Bn h2 i hi)).2.2,h1⟩
theorem FM {l:List Obj} {id:Int} (h:AC l id≠0):∃j,j<l.length∧(obj l j).id=id∧AC l id=(obj l j).kind:=by
 unfold AC at h⊢;cases hf:l.find? (fun o=>o.id==id) with
 |none=>rw[hf] at h;exact absurd rfl h
 |some o=>
  have h1:=List.mem_of_find?_eq_some hf;have h2:=List.find?_some hf;obtain⟨j,hj,rfl⟩:=List.getElem_of_mem h1;exact⟨j,hj,by rw[Dm hj];simpa using h2,by rw[Dm hj]⟩
theorem Right.linked {l:List Obj} (h:Right l) {i k:Nat} (hi:i<l.length) (hk:k<(obj l i).links.length):
  ∃j,j<i∧(obj l j).id=Ct (obj l i).links k∧Bk (obj l i) k (obj l j).kind=0:=by
 have h1:=h.link i hi k hk;have hne:AC (l.take i) (Ct (obj l i).links k)≠0:=fun e=>by rw[e] at h1;exact absurd h1 (by unfold Bk;simp)
 obtain⟨j,hj,hid,hkd⟩:=FM hne;have hji:j<i:=by simp at hj;omega
 rw[FQ hji] at hid hkd;exact⟨j,hji,hid,by rw[hkd] at h1;exact h1⟩
theorem AD.inj {l:List Obj} (h:AD l) {i j:Nat} (hi:i<l.length) (hj:j<l.length) (e:(obj l i).id=(obj l j).id):i=j:=by
 rcases Nat.lt_trichotomy i j with h1|h1|h1
 ·have:=h i j h1 hj;omega
 ·exact h1
 ·have:=h j i h1 hi;omega
theorem AD.lo_self {l:List Obj} (h:AD l) {i:Nat} (hi:i<l.length):lo l (obj l i).id=i:=
 XG (Nat.le_of_lt hi) (fun j hj=>h j i hj hi) (fun j hij hj=>by
  rcases Nat.lt_or_ge i j with h'|h'
  ·have:=h i j h' hj;omega
  ·have e:j=i:=by omega
   subst e;omega)
theorem AD.isAt_self {l:List Obj} (h:AD l) {i:Nat} (hi:i<l.length):CO l (obj l i).id=true:=by
 unfold CO;rw[h.lo_self hi];simp[hi]
theorem AD.at_self {l:List Obj} (h:AD l) {i:Nat} (hi:i<l.length):Kn l (obj l i).id=i:=by
 rw[h.at_,h.isAt_self hi,h.lo_self hi];rfl
theorem AD.kind_self {l:List Obj} (h:AD l) {i:Nat} (hi:i<l.length):AC l (obj l i).id=(obj l i).kind:=by
 rw[h.kind,h.isAt_self hi,h.lo_self hi];rfl
theorem Ii {o:Obj} {par:Bool} {x:Int} (h:x∈EN o par):∃k,k<o.links.length∧x=Ct o.links k∧(par=true→0<k):=by
 cases par
 ·obtain⟨k,hk,rfl⟩:=List.getElem_of_mem (show x∈o.links from h)
  exact⟨k,hk,by rw[DV hk],fun e=>by cases e⟩
 ·have h':x∈o.links.drop 1:=h
  obtain⟨k,hk,rfl⟩:=List.getElem_of_mem h';simp at hk;exact⟨k+1,by omega,by rw[DV (by omega),List.getElem_drop];congr 1;omega,fun _=>by omega⟩
theorem Right.edge_lt {l:List Obj} (h:Right l) {par:Bool} {i j:Nat} (hi:i<l.length) (e:Fc l par i j=true):j<i:=by
 simp only[Fc,Bool.and_eq_true,decide_eq_true_eq,List.any_eq_true,beq_iff_eq] at e;obtain⟨hj,x,hx,hxe⟩:=e;obtain⟨k,hk,rfl,_⟩:=Ii hx;obtain⟨j',hj',hid,_⟩:=h.linked hi hk;have:=h.rising.inj hj (by omega) (hxe.symm.trans hid.symm);omega
theorem NV {o:Obj} {k:Nat} {kind:Int} (h3:o.kind=3):Bk o k kind=if kind=0 then 5 else if(kind=2∧k=0)∨(kind=3∧0<k) then 0 else 7:=by
 unfold Bk;simp[h3]
theorem Right.edge_kind {l:List Obj} (h:Right l) {i j:Nat} (hi:i<l.length) (hk:(obj l i).kind=3) (e:Fc l true i j=true):(obj l j).kind=3:=by
 simp only[Fc,Bool.and_eq_true,decide_eq_true_eq,List.any_eq_true,beq_iff_eq] at e;obtain⟨hj,x,hx,hxe⟩:=e;obtain⟨k,hk',rfl,h0⟩:=Ii hx;obtain⟨j',hj',hid,hle⟩:=h.linked hi hk';have:=h.rising.inj hj (by omega) (hxe.symm.trans hid.symm);subst this;rw[NV hk] at hle;have h0':=h0 rfl;by_cases h1:(obj l j).kind=0
 ·rw[if_pos h1] at hle;exact absurd hle (by decide)
 ·rw[if_neg h1] at hle
  by_cases h2:((obj l j).kind=2∧k=0)∨((obj l j).kind=3∧0<k)
  ·omega
  ·rw[if_neg h2] at hle;exact absurd hle (by decide)
def Ki (l:List Obj) (par:Bool):Nat→(Nat→Bool)→(Nat→Bool)
 |0,M=>M
 |i+1,M=>Ki l par i (fun j=>M j||(M i && Fc l par i j))
def VZ (l:List Obj) (tips:List Int) (j:Nat):Bool:=tips.any (fun x=>x==(obj l j).id)
def FR (l:List Obj) (par:Bool) (tips:List Int):Nat→Bool:=Ki l par l.length (VZ l tips)
theorem VU {l:List Obj} (h:Right l) {par:Bool}:∀(n:Nat) (M:Nat→Bool),n≤l.length→(∀a b,n≤a→a<l.length→M a=true→Fc l par a b=true→M b=true)→
  ∀j,j<l.length→(Ki l par n M j=true↔∃i,i<l.length∧M i=true∧Rch l par i j):=by
 intro n
 induction n with
 | zero=>
  intro M hn hcl j hj;constructor
  ·intro e;exact⟨j,hj,e,.refl _⟩
  ·rintro⟨i,hi,hM,hr⟩
   show M j=true
   induction hr with
   |refl=>exact hM
   |step e _ ih=>exact ih hj (by have:=h.edge_lt hi e;omega) (hcl _ _ (Nat.zero_le _) hi hM e)
 | succ n ih=>
  intro M hn hcl j hj;have hcl':∀a b,n≤a→a<l.length→(M a||(M n && Fc l par n a))=true→Fc l par a b=true→(M b||(M n && Fc l par n b))=true:=by
   intro a b hna ha hM e;simp only[Bool.or_eq_true,Bool.and_eq_true] at hM⊢;rcases hM with hM|⟨hM,e2⟩
   ·rcases Nat.lt_or_ge n a with h1|h1
    ·exact .inl (hcl a b h1 ha hM e)
    ·have:a=n:=by omega
     subst this;exact .inr ⟨hM,e⟩
   ·have:=h.edge_lt (by omega) e2;omega
  rw[Ki,ih _ (by omega) hcl' j hj];constructor
  ·rintro⟨i,hi,hM,hr⟩
   simp only[Bool.or_eq_true,Bool.and_eq_true] at hM;rcases hM with hM|⟨hM,e⟩
   ·exact⟨i,hi,hM,hr⟩
   ·exact⟨n,by omega,hM,.step e hr⟩
  ·rintro⟨i,hi,hM,hr⟩
   exact⟨i,hi,by simp[hM],hr⟩
theorem VK {l:List Obj} (h:Right l) {par:Bool} {tips:List Int} {j:Nat} (hj:j<l.length):
  FR l par tips j=true↔∃i,i<l.length∧VZ l tips i=true∧Rch l par i j:=
 VU h l.length _ (Nat.le_refl _) (fun a b h1 h2=>by omega) j hj
def Dj (l:List Obj) (old newer:Int):Bool:=FR l true [newer] (Kn l old).toNat
variable [Ghost]
structure Rf where
 name:ByteArray
 id:Int
def bG:Rf:=⟨ByteArray.empty,0⟩
def rf (l:List Rf) (i:Nat):Rf:=at_ bG l i
theorem DB {l:List Rf} {i:Nat} (h:i<l.length):rf l i=l[i]:=Ni h
def AB (S:Nat→Prop) (w:World) (v:Value) (l:List Rf):Prop:=
 Sl S w v 2 24 l.length (fun i=>[.string (rf l i).name,.int .i64 (rf l i).id])∧∀r∈l,Dy r.id∧r.name.size≤140737488351232
theorem AB.below {S:Nat→Prop} {w w':World} {v:Value} {l:List Rf} (h:AB S w v l) (hb:Below w.heap.size w w'):AB S w' v l:=⟨h.1.below hb,h.2⟩
theorem AB.weaken {S S':Nat→Prop} {w:World} {v:Value} {l:List Rf} (h:AB S w v l) (hs:∀b,S b→S' b):AB S' w v l:=⟨h.1.weaken hs,h.2⟩
theorem AB.same {S:Nat→Prop} {w w':World} {v:Value} {l:List Rf} (h:AB S w v l) (hs:Km S w w'):AB S w' v l:=⟨h.1.same hs,h.2⟩
theorem AB.nil (S:Nat→Prop) (w:World) (cap:Nat) (a:Option Addr) (h:cap≤9223372036854775807):AB S w (.slice a 0 cap) []:=
 ⟨⟨a,cap,rfl,Nat.zero_le _,h,by simp,fun h=>absurd h (by simp)⟩,fun x hx=>by cases hx⟩
theorem AB.shape {S:Nat→Prop} {w:World} {v:Value} {l:List Rf} (h:AB S w v l):∃p:Option Addr×Nat,v=.slice p.1 l.length p.2:=
 let⟨a,cap,hv,_⟩:=h.1;⟨(a,cap),hv⟩
theorem AB.each {S:Nat→Prop} {w:World} {v:Value} {l:List Rf} (h:AB S w v l) {i:Nat} (hi:i<l.length):Dy (rf l i).id∧(rf l i).name.size≤140737488351232:=h.2 _ (Ko hi)
theorem AB.open {S:Nat→Prop} {w:World} {v:Value} {l:List Rf} (h:AB S w v l):
  ∃a n cap,Hid (n=l.length)∧v=.slice a n cap∧n≤cap∧cap≤9223372036854775807∧n*24≤140737488351232∧
   (0<n→∃b off,a=some ⟨b,off,none⟩∧S b∧
    (∀i x,i<n→Below w.heap.size w x→x.cell? ⟨b,off+i*2,none⟩=some (.string (rf l i).name))∧
    (∀i x,i<n→Below w.heap.size w x→x.cell? ⟨b,off+i*2+1,none⟩=some (.int .i64 (rf l i).id)))∧
   (∀i,i<n→Dy (rf l i).id∧(rf l i).name.size≤140737488351232):=by
 have he:=fun i (hi:i<l.length)=>h.each hi
 obtain⟨⟨a,cap,hv,h1,h2,h3,h4⟩,h5⟩:=h;refine⟨a,l.length,cap,rfl,hv,h1,h2,h3,fun hn=>?_,he⟩;obtain⟨b,off,ha,hS,hc⟩:=h4 hn;refine⟨b,off,ha,hS.1,fun i x hi hb=>?_,fun i x hi hb=>?_⟩
 ·have:=Ae hb (hc i hi 0 _ rfl);simpa using this
 ·exact Ae hb (hc i hi 1 _ rfl)
def OF (c:Int):Bool:=(decide (97≤c) && decide (c≤122))||(decide (48≤c) && decide (c≤57))||(c==45)
def ahead (s:ByteArray) (i:Nat):Int:=if i=0 then 47 else EL s (i-1)
def GH (s:ByteArray) (i:Nat):Bool:=!OF (EL s i) && (EL s i !=47||ahead s i==47)
def AR (s:ByteArray):Int:=
 if 12<s.size then 2
 else if An (fun i=>if GH s i then 1 else 0) s.size≠0 then 1
 else if ahead s s.size=47 then 1 else 0
theorem SR (s:ByteArray) (i:Nat):ahead s (i+1)=EL s i:=by simp[ahead]
theorem Ld {s:ByteArray} (h:12<s.size):AR s=2:=by unfold AR;rw[if_pos h]
theorem UD {f:Nat→Int} {k n:Nat} (hk:k<n) (hf:f k≠0):An f n≠0:=fun h=>hf (Bn h k hk)
theorem Mx {s:ByteArray} {i:Nat} (h:s.size≤12) (hi:i<s.size) (hb:GH s i=true):AR s=1:=by
 unfold AR;rw[if_neg (by omega),if_pos (UD hi (by simp[hb]))]
theorem Ka {s:ByteArray} (h:s.size≤12) (ha:ahead s s.size=47):AR s=1:=by
 unfold AR;rw[if_neg (by omega)];split
 ·rfl
 ·rfl
theorem Oe {s:ByteArray} (h:s.size≤12) (hb:∀i,i<s.size→GH s i=false) (ha:ahead s s.size≠47):AR s=0:=by
 unfold AR;rw[if_neg (by omega),if_neg,if_neg ha];simp only[ne_eq,Decidable.not_not];exact Bd fun i hi=>by simp[hb i hi]
def Nk (s:ByteArray) (i:Nat):Bool:=
 (!within (EL s i) 97 122 && !within (EL s i) 48 57 && EL s i !=45 && EL s i !=47)||(EL s i==47 && EL s (i-1)==47)
theorem SU {s:ByteArray} {i:Nat} (h:i=0→EL s 0≠47):Nk s i=GH s i:=by
 unfold GH Nk OF within ahead;by_cases h0:i=0
 ·subst h0
  have:=h rfl;rw[Bool.eq_iff_iff];simp;omega
 ·rw[Bool.eq_iff_iff];simp[h0];omega
theorem SV {s:ByteArray} (h:EL s 0=47):GH s 0=true:=by
 unfold GH OF ahead;simp[h]
theorem Tu (x y:List UInt8):(Op.bytesLess x y||x==y)=!Op.bytesLess y x:=by
 induction x generalizing y with
 |nil=>cases y<;>simp[Op.bytesLess]
 | cons a x ih=>
  cases y with
  |nil=>simp[Op.bytesLess]
  | cons b y=>
   have:=ih y;simp only[Op.bytesLess,List.cons_beq_cons];by_cases h1:a<b
   ·have h2:¬b<a:=by simp only[UInt8.lt_iff_toNat_lt] at*;omega
    have h3:(b==a)=false:=by
     rw[beq_eq_false_iff_ne];intro e;subst e;exact h2 h1
    simp[h1,h2,h3]
   ·by_cases h2:b<a
    ·have h3:(a==b)=false:=by
      rw[beq_eq_false_iff_ne];intro e;subst e;exact h1 h2
     simp[h1,h2,h3]
    ·have h3:a=b:=by
      apply UInt8.toNat_inj.1
      simp only[UInt8.lt_iff_toNat_lt] at*;omega
     subst h3;simp[h1,this]
def Au (a b:ByteArray):Bool:=Op.bytesLess a.toList b.toList
theorem ZG (a b:ByteArray):(Op.bytesLess a.toList b.toList||a.toList==b.toList)=!Au b a:=Tu _ _
def BP (a b:ByteArray):Bool:=decide (a.size<b.size) && ((b.extract 0 a.size).toList==a.toList) && (EL b a.size==47)
theorem QG (a b:ByteArray):(decide ((a++⟨#[47]⟩).size≤b.size) && ((b.extract 0 (a++⟨#[47]⟩:ByteArray).size).toList==(a++⟨#[47]⟩:ByteArray).toList))=BP a b:=by
 have hsz:(a++⟨#[47]⟩:ByteArray).size=a.size+1:=by rw[ByteArray.size_append];rfl
 unfold BP;rw[hsz];by_cases h:a.size<b.size
 ·have h1:a.size+1≤b.size:=h
  simp only[h,h1,decide_true,Bool.true_and];rw[Bool.eq_iff_iff];simp only[Bool.and_eq_true,beq_iff_eq];rw[ByteArray.toList_eq,ByteArray.toList_eq,ByteArray.toList_eq,ByteArray.toList_eq];have e1:(b.extract 0 (a.size+1)).data.toList=b.data.toList.take (a.size+1):=by rw[Lib.extract_data];simp
  have e2:(b.extract 0 a.size).data.toList=b.data.toList.take a.size:=by rw[Lib.extract_data];simp
  have e3:(a++⟨#[47]⟩:ByteArray).data.toList=a.data.toList++[47]:=by simp
  have hb:a.size<b.data.toList.length:=by simpa using h
  have hal:a.data.toList.length=a.size:=by simp
  rw[e1,e2,e3,List.take_succ_eq_append_getElem hb];have hby:EL b a.size=47↔b.data.toList[a.size]=47:=by
   unfold EL;rw[List.getD_eq_getElem?_getD,List.getElem?_eq_getElem hb];simp only[Option.getD_some];constructor
   ·intro e;apply UInt8.toNat_inj.1;have:(47:UInt8).toNat=47:=rfl;omega
   ·intro e;rw[e];rfl
  rw[hby];constructor
  ·intro e
   have:=List.append_inj e (by simp at hb⊢;omega);exact⟨this.1,by simpa using this.2⟩
  ·rintro⟨e,f⟩;rw[e,f]
 ·have h1:¬a.size+1≤b.size:=by omega
  simp[h,h1]
def CI (l:List Rf) (s:ByteArray):Int:=match l.findIdx? (fun r=>r.name.toList==s.toList) with|some i=>(i:Int)|none=>-1
theorem Th {l:List Rf} {s:ByteArray} {k:Nat} (h:∀j,j<k→((rf l j).name.toList==s.toList)=false) (hk:k<l.length) (he:((rf l k).name.toList==s.toList)=true):CI l s=k:=by
 unfold CI;have:l.findIdx? (fun r=>r.name.toList==s.toList)=some k:=by
  rw[List.findIdx?_eq_some_iff_getElem];refine⟨hk,by rw[←DB hk];exact he,fun j hj=>?_⟩;have:=h j hj;rw[DB (by omega)] at this;simp[this]
 rw[this]
theorem RC {l:List Rf} {s:ByteArray} (h:∀j,j<l.length→((rf l j).name.toList==s.toList)=false):CI l s=-1:=by
 unfold CI;have:l.findIdx? (fun r=>r.name.toList==s.toList)=none:=by
  rw[List.findIdx?_eq_none_iff];intro x hx;obtain⟨i,hi,rfl⟩:=List.getElem_of_mem hx;have:=h i hi
  rwa [DB hi] at this
 rw[this]
theorem Qr (l:List Rf) (s:ByteArray):CI l s=-1∨∃k,k<l.length∧CI l s=(k:Int)∧(rf l k).name=s:=by
 unfold CI;cases h:l.findIdx? (fun r=>r.name.toList==s.toList) with
 |none=>exact .inl rfl
 |some k=>
  rw[List.findIdx?_eq_some_iff_getElem] at h;obtain⟨hk,he,_⟩:=h;refine .inr ⟨k,hk,rfl,?_⟩;rw[DB hk];rw[BL] at he;simpa using he
def AH (objs:List Obj) (id:Int):Int:=if AC objs id=0 then 5 else if AC objs id=3 then 0 else 7
def BW (l:List Rf) (objs:List Obj) (i:Nat):Int:=
 if AR (rf l i).name≠0 then AR (rf l i).name
 else if 0<i∧Au (rf l (i-1)).name (rf l i).name=false then 4
 else AH objs (rf l i).id
def Ez (l:List Rf) (i k:Nat):Int:=if BP (rf l i).name (rf l k).name then 6 else 0
def AE (l:List Rf) (objs:List Obj):Int:=
 if 8<l.length then 2
 else if An (BW l objs) l.length≠0 then An (BW l objs) l.length
 else An (fun i=>An (Ez l i) l.length) l.length
def Ap (l:List Rf) (objs:List Obj):Int:=if Aj objs≠0 then Aj objs else AE l objs
theorem Lm {l:List Rf} {objs:List Obj} {i:Nat} {e:Int} (hn:l.length≤8) (h0:An (BW l objs) i=0) (hi:i<l.length) (he:BW l objs i=e) (hne:e≠0):AE l objs=e:=by
 have:=BX h0 (by rw[he];exact hne) hi;unfold AE;rw[if_neg (by omega),this,he,if_pos hne]
theorem Kf {l:List Rf} {objs:List Obj} {i k:Nat} (hn:l.length≤8) (h0:An (BW l objs) l.length=0) (hi:i<l.length) (hk:k<l.length) (h:BP (rf l i).name (rf l k).name=true):AE l objs=6:=by
 unfold AE;rw[if_neg (by omega),h0,if_neg (by simp)];have hin:∀m n,An (Ez l m) n=0∨An (Ez l m) n=6:=fun m n=>by
  induction n with
  |zero=>exact .inl rfl
  |succ n ih=>
   unfold An;rcases ih with ih|ih
   ·rw[ih,if_pos rfl];unfold Ez;split<;>simp
   ·rw[ih,if_neg (by decide)];exact .inr rfl
 have hout:∀n,An (fun i=>An (Ez l i) l.length) n=0∨An (fun i=>An (Ez l i) l.length) n=6:=fun n=>by
  induction n with
  |zero=>exact .inl rfl
  |succ n ih=>
   unfold An;rcases ih with ih|ih
   ·rw[ih,if_pos rfl];exact hin _ _
   ·rw[ih,if_neg (by decide)];exact .inr rfl
 rcases hout l.length with h1|h1
 ·exact absurd (Bn h1 i hi) (UD hk (by simp[Ez,h]))
 ·exact h1
theorem Jw {l:List Rf} {objs:List Obj} (hn:l.length≤8) (h0:An (BW l objs) l.length=0) (h:∀i k,i<l.length→k<l.length→BP (rf l i).name (rf l k).name=false):AE l objs=0:=by
 unfold AE;rw[if_neg (by omega),h0,if_neg (by simp)];exact Bd fun i hi=>Bd fun k hk=>by simp[Ez,h i k hi hk]
theorem Ke {l:List Rf} {objs:List Obj} (hn:8<l.length):AE l objs=2:=by unfold AE;rw[if_pos hn]
variable [Ghost]
section
variable {P:Program} {ops:Array Oper} {Q:Exit→Act→World→Prop} {md:Region.Mode} {fuel:Nat} {listed:Array Bool} {a:Act} {w:World}
theorem Du {id n:Nat} {a:Act} {w:World} (hm:P.follows .mixedOrders=true) (hn:ops.size=n)
  (h:wpAny P .any ops Q n (Array.replicate n false) a w.drew):(Code.region id ops true).wp P Q a w:=by
 subst hn;exact wp_region_any hm h
theorem YG (i:Nat) {o:Oper} (hr:Region.ready md ops listed=[i]) (ho:ops[i]?=some o) (hw:Region.wanted o (yielded ops a.tmps)=true)
  (h:∀K:Act→World→Prop,(∀a w,wpAny P md ops Q fuel (listed.setIfInBounds i true) a w→K a w)→o.wp P a w K Q):wpAny P md ops Q (fuel+1) listed a w:=by
 refine⟨fun h0=>absurd (hr.symm.trans h0) (by simp),fun j hj=>?_⟩;rw[hr] at hj;obtain rfl:j=i:=by simpa using hj
 unfold wpOp;simp only[ho,hw,if_true];exact .inl (h _ fun _ _ h=>h)
theorem WJ (i:Nat) {o:Oper} (v:Value) (ho:ops[i]?=some o) (hs:Region.noSelect ops=true) (hf:Region.free md ops listed i=true) (hr:(Region.ready md ops listed).contains i=true)
  (hQ:∀c a w,Q (.panic c) (a.put o.dst v) w→Q (.panic c) a w) (hw:Region.wanted o (yielded ops a.tmps)=true) (hy:∀w,(execOp a.eval o).run P w=.ok (.value v) w)
  (h:wpAny P md ops Q fuel (listed.setIfInBounds i true) (a.put o.dst v) w):wpAny P md ops Q (fuel+1) listed a w:=
 wpAny_first ho (Region.noSelect_spec hs) hQ fuel listed a w (Region.free_spec ho hf) (by simpa using hr) (.inl ⟨hw,hy⟩) h
theorem ET (i j:Nat) (hr:Region.ready md ops listed=[i,j]) (h1:wpOp P ops Q i (wpAny P md ops Q fuel (listed.setIfInBounds i true)) a w)
  (h2:wpOp P ops Q j (wpAny P md ops Q fuel (listed.setIfInBounds j true)) a w):wpAny P md ops Q (fuel+1) listed a w:=by
 refine⟨fun h0=>absurd (hr.symm.trans h0) (by simp),fun k hk=>?_⟩;rw[hr] at hk;rcases List.mem_cons.1 hk with rfl|hk
 ·exact h1
 ·obtain rfl:k=j:=by simpa using hk
  exact h2
theorem Eo {i:Nat} {o:Oper} {K:Act→World→Prop} (ho:ops[i]?=some o) (hw:Region.wanted o (yielded ops a.tmps)=true)
  (h:∀K':Act→World→Prop,(∀a w,K a w→K' a w)→o.wp P a w K' Q):wpOp P ops Q i K a w:=by
 unfold wpOp;simp only[ho,hw,if_true];exact .inl (h _ fun _ _ h=>h)
theorem BN {fuel:Nat} (hr:Region.ready md ops listed=[]) (h:Q .normal a w):wpAny P md ops Q fuel listed a w:=by
 cases fuel with
 |zero=>exact⟨hr,h⟩
 |succ n=>exact⟨fun _=>h,by rw[hr];simp⟩
end
variable [Ghost]
structure LA where
 holds:Value→World→Prop
 mono:∀v x y,holds v x→Below x.heap.size x y→holds v y
def LA.is (v0:Value):LA:=⟨fun v _=>v=v0,fun _ _ _ h _=>h⟩
def LA.any:LA:=⟨fun _ _=>True,fun _ _ _ _ _=>trivial⟩
def MN (ops:Array Oper) (o:Oper):List (Nat×Option Tmp):=
 (o.after.toList.filter fun e=>Region.binds .any e).map fun e=>(e.on,(ops[e.on]?).bind (·.dst))
def bH (ops:Array Oper):List (Nat×Option Tmp):=(List.range ops.size).map fun j=>(j,(ops[j]?).bind (·.dst))
def Pj (a:Act) (vals:Nat→Value):List (Nat×Option Tmp)→Act
 |[]=>a
 |jd::js=>Pj (a.put jd.2 (vals jd.1)) vals js
def ZC (Φ:Nat→LA) (vals:Nat→Value) (x:World):List (Nat×Option Tmp)→Prop
 |[]=>True
 |jd::js=>(Φ jd.1).holds (vals jd.1) x∧ZC Φ vals x js
def aA (d:Option Tmp) (a:Act):Value:=match d with|some d=>a.eval (.tmp d)|none=>undef
def Ux:Op→Bool
 |.defer _=>true
 |.select ..=>true
 |_=>false
def Tt (ops:Array Oper) (i j:Nat):Bool:=j==i||match ops[j]? with
 |some o=>(MN ops o).any fun jd=>jd.1==i
 |none=>false
def Vh (ops:Array Oper) (i:Nat) (o:Oper) (js:List (Nat×Option Tmp)):Bool:=
 (o.looksAt ops).all (fun t=>(List.range ops.size).all fun j=>(ops[j]?).bind (·.dst) !=some t||js.contains (j,some t)||Tt ops i j) && js.all (fun jd=>(MN ops o).contains jd)
def Tj (ops:Array Oper) (n:Nat):Bool:=
 (List.range ops.size).all fun i=>match ops[i]? with
  |none=>true
  |some o=>!Ux o.op && (match o.dst with|some d=>decide (d<n)|none=>true) &&
   ((List.range ops.size).all fun j=>j==i||o.dst.isNone||(ops[j]?).bind (·.dst) !=o.dst) &&
   (MN ops o).all fun jd=>decide (jd.1<i)
section
variable {P:Program} {ops:Array Oper} {Q:Exit→Act→World→Prop} {a0:Act} {R:World→Prop} {Φ:Nat→LA}
theorem Oq (vals:Nat→Value) (t:Tmp) (v:Value):∀(js:List (Nat×Option Tmp)) (a:Act),(∀jd∈js,jd.2=some t→vals jd.1=v)→
  (Pj a vals js).tmps[t]?=if(∃jd∈js,jd.2=some t) then(if t<a.tmps.size then some v else none) else a.tmps[t]?
 |[],a,_=>by simp[Pj]
 | jd::js,a,h=>by
  rw[Pj,Oq vals t v js _ (fun x hx=>h x (List.mem_cons_of_mem _ hx))];by_cases h1:∃x∈js,x.2=some t
  ·have h2:∃x∈jd::js,x.2=some t:=let⟨x,hx,e⟩:=h1;⟨x,List.mem_cons_of_mem _ hx,e⟩
   rw[if_pos h1,if_pos h2];cases e:jd.2 with
   |none=>rfl
   |some d=>simp[Act.put]
  ·rw[if_neg h1]
   by_cases h3:jd.2=some t
   ·have h2:∃x∈jd::js,x.2=some t:=⟨jd,List.mem_cons_self,h3⟩
    rw[if_pos h2,←h jd List.mem_cons_self h3,h3];simp[Act.put,Array.getElem?_setIfInBounds]
   ·have h2:¬∃x∈jd::js,x.2=some t:=by
     rintro⟨x,hx,e⟩;rcases List.mem_cons.1 hx with rfl|hx
     ·exact h3 e
     ·exact h1 ⟨x,hx,e⟩
    rw[if_neg h2];cases e:jd.2 with
    |none=>rfl
    |some d=>
     have hne:d≠t:=fun e'=>h3 (by rw[e,e'])
     simp[Act.put,Array.getElem?_setIfInBounds_ne hne]
def SQ (P:Program) (ops:Array Oper) (a0:Act) (R:World→Prop) (Φ:Nat→LA) (i:Nat) (o:Oper) (js:List (Nat×Option Tmp)):Prop:=
 ∀(vals:Nat→Value) (x:World),In R x→ZC Φ vals x js→∀K:Act→World→Prop,
  Hid (∀a' x',a'.defers=(Pj a0 vals js).defers→Below x.heap.size x x'→(Φ i).holds (aA o.dst a') x'→K a' x')→
  if Region.wanted o (yielded ops (Pj a0 vals js).tmps)=true then Oper.wp P o (Pj a0 vals js) x K (fun _ _ _=>False) else K ((Pj a0 vals js).put o.dst undef) x
theorem PH {n:Nat} (h:Tj ops n=true) {i:Nat} {o:Oper} (ho:ops[i]?=some o):
  Ux o.op=false∧(∀d,o.dst=some d→d<n)∧True∧
  (∀j d,j≠i→o.dst=some d→(ops[j]?).bind (·.dst)≠some d)∧∀jd∈MN ops o,jd.1<i:=by
 have hi:i<ops.size:=(Array.getElem?_eq_some_iff.1 ho).1;have h1:=List.all_eq_true.1 h i (List.mem_range.2 hi);simp only[ho,Bool.and_eq_true,Bool.not_eq_true'] at h1;obtain⟨⟨⟨h1,h2⟩,h4⟩,h5⟩:=h1;refine⟨h1,fun d hd=>?_,trivial,fun j d hj hd=>?_,fun jd hjd=>?_⟩
 ·rw[hd] at h2;simpa using h2
 ·intro e
  have h6:=List.all_eq_true.1 h4 j (List.mem_range.2 (by
   rcases Nat.lt_or_ge j ops.size with h|h
   ·exact h
   ·rw[Array.getElem?_eq_none h] at e;cases e))
  rw[e,hd] at h6;simp[hj] at h6
 ·have:=List.all_eq_true.1 h5 jd hjd
  simpa using this
theorem Xr {i:Nat} {o:Oper} {js:List (Nat×Option Tmp)} (h:Vh ops i o js=true):(∀t∈o.looksAt ops,∀j,(ops[j]?).bind (fun q:Oper=>q.dst)=some t→(j,some t)∈js∨Tt ops i j=true)∧∀jd∈js,jd∈MN ops o:=by
 unfold Vh at h;rw[Bool.and_eq_true] at h;refine⟨fun t ht j hj=>?_,fun jd hjd=>?_⟩
 ·have h6:=List.all_eq_true.1 (List.all_eq_true.1 h.1 t ht) j (List.mem_range.2 (by
   rcases Nat.lt_or_ge j ops.size with h|h
   ·exact h
   ·rw[Array.getElem?_eq_none h] at hj;cases hj))
  rw[hj] at h6;simpa using h6
 ·simpa using List.all_eq_true.1 h.2 jd hjd
structure Nf (ops:Array Oper) (a0:Act) (Φ:Nat→LA) (listed:Array Bool) (a:Act) (x:World) (vals:Nat→Value):Prop where
 defers:a.defers=a0.defers
 size:a.tmps.size=a0.tmps.size
 here:∀j d,(ops[j]?).bind (·.dst)=some d→listed.getD j true=true→a.tmps[d]?=if d<a0.tmps.size then some (vals j) else none
 other:∀t,(∀j,listed.getD j true=true→(ops[j]?).bind (·.dst)≠some t)→a.tmps[t]?=a0.tmps[t]?
 facts:∀j,j<ops.size→listed.getD j true=true→(Φ j).holds (vals j) x
 closed:∀j o,ops[j]?=some o→listed.getD j true=true→∀jd∈MN ops o,listed.getD jd.1 true=true
theorem MO {listed:Array Bool} {i:Nat} {o:Oper} (ho:ops[i]?=some o) (hr:i∈Region.ready .any ops listed):∀jd∈MN ops o,listed.getD jd.1 false=true∧jd.2=(ops[jd.1]?).bind (·.dst):=by
 obtain⟨_,o',ho',hall⟩:=mem_ready.1 hr;rw[ho] at ho';cases ho';intro jd hjd;unfold MN at hjd;rw[List.mem_map] at hjd;obtain⟨e,he,rfl⟩:=hjd;rw[List.mem_filter] at he;exact⟨hall e (Array.mem_toList_iff.1 he.1) (by simpa using he.2),rfl⟩
theorem KT {listed:Array Bool} {j:Nat} (h:listed.getD j false=true):listed.getD j true=true:=by
 rw[Array.getD_eq_getD_getElem?] at h⊢;cases e:listed[j]? with
 |none=>rfl
 |some b=>rw[e] at h;exact h
theorem Nf.same {n:Nat} (hok:Tj ops n=true) {listed:Array Bool} {a:Act} {x:World} {vals:Nat→Value} (h:Nf ops a0 Φ listed a x vals) {i:Nat} {o:Oper} (ho:ops[i]?=some o)
  (hr:i∈Region.ready .any ops listed) {js:List (Nat×Option Tmp)} (hjs:Vh ops i o js=true) (t:Tmp) (ht:t∈o.looksAt ops):(Pj a0 vals js).tmps[t]?=a.tmps[t]?:=by
 obtain⟨h3,hsub⟩:=Xr hjs;have hw:=fun jd (hjd:jd∈js)=>MO ho hr jd (hsub jd hjd)
 have hl:=(mem_ready.1 hr).1;have huniq:∀j j':Nat,(ops[j]?).bind (fun q:Oper=>q.dst)=some t→(ops[j']?).bind (fun q:Oper=>q.dst)=some t→j'=j:=fun j j' hj hj'=>by
  by_cases hne:j'=j
  ·exact hne
  ·obtain⟨oj,hoj⟩:∃oj,ops[j]?=some oj:=by
    cases h:ops[j]? with
    |none=>rw[h] at hj;cases hj
    |some oj=>exact⟨oj,rfl⟩
   exact absurd hj' ((PH hok hoj).2.2.2.1 j' t hne (by rw[hoj] at hj;exact hj))
 have hout:(∀jd∈js,jd.2≠some t)→(∀j:Nat,listed.getD j true=true→(ops[j]?).bind (fun q:Oper=>q.dst)≠some t)→(Pj a0 vals js).tmps[t]?=a.tmps[t]?:=fun h1 h2=>by
  rw[Oq vals t undef _ _ (fun jd hjd e=>(h1 jd hjd e).elim),if_neg (by rintro⟨jd,hjd,e⟩;exact h1 jd hjd e)];exact(h.other t h2).symm
 by_cases hj:∃j:Nat,(ops[j]?).bind (fun q:Oper=>q.dst)=some t
 ·obtain⟨j,hj⟩:=hj
  by_cases hm:(j,some t)∈js
  ·rw[Oq vals t (vals j) _ _ (fun jd hjd e=>by
    have e1:=(hw jd hjd).2;rw[e] at e1;rw[huniq j jd.1 hj e1.symm])]
   rw[if_pos ⟨_,hm,rfl⟩,h.here j t hj (KT (hw _ hm).1)]
  ·have hlat:=(h3 t ht j hj).resolve_left hm
   refine hout (fun jd hjd e=>hm ?_) (fun j' hlj' e=>?_)
   ·have e1:=(hw jd hjd).2
    rw[e] at e1;rw[←huniq j jd.1 hj e1.symm,←e];exact hjd
   ·have e2:=huniq j j' hj e
    subst e2;unfold Tt at hlat;rw[Bool.or_eq_true] at hlat;rcases hlat with hlat|hlat
    ·have:j'=i:=by simpa using hlat
     subst this;rw[hl] at hlj';cases hlj'
    ·cases hoj:ops[j']? with
     |none=>rw[hoj] at hj;cases hj
     |some oj=>
      rw[hoj] at hlat;obtain⟨jd,hjd,e3⟩:=List.any_eq_true.1 hlat;have:=h.closed j' oj hoj hlj' jd hjd;rw[show jd.1=i by simpa using e3,hl] at this;cases this
 ·exact hout (fun jd hjd e=>hj ⟨jd.1,by rw[←(hw jd hjd).2];exact e⟩) (fun j _ e=>hj ⟨j,e⟩)
theorem Gp {listed:Array Bool} {i:Nat} (h:i<listed.size):(listed.setIfInBounds i true).getD i true=true:=by
 simp[Array.getD_eq_getD_getElem?,h]
theorem Ik {listed:Array Bool} {i j:Nat} (h:(listed.setIfInBounds i true).getD j true=true):j=i∨listed.getD j true=true:=by
 by_cases e:j=i
 ·exact .inl e
 ·rw[getD_set_ne true (fun e'=>e e'.symm)] at h;exact .inr h
theorem Pb {listed:Array Bool} {i j:Nat} (h:listed.getD j true=true):(listed.setIfInBounds i true).getD j true=true:=by
 by_cases e:j=i
 ·subst e
  rcases Nat.lt_or_ge j listed.size with h'|h'
  ·exact Gp h'
  ·rw[Array.getD_eq_getD_getElem?,Array.getElem?_eq_none (by simpa using h')];rfl
 ·rw[getD_set_ne true (fun e'=>e e'.symm)];exact h
theorem Nf.next {listed:Array Bool} {a:Act} {x x':World} {vals:Nat→Value} (h:Nf ops a0 Φ listed a x vals) {i:Nat} {o:Oper} {n:Nat} (hok:Tj ops n=true) (ho:ops[i]?=some o)
  (hr:i∈Region.ready .any ops listed) (hb:Below x.heap.size x x') {v:Value} (hv:(Φ i).holds v x'):
  Nf ops a0 Φ (listed.setIfInBounds i true) (a.put o.dst v) x' (fun j=>if j=i then v else vals j):=by
 obtain⟨_,_,_,h4,_⟩:=PH hok ho;have hio:(ops[i]?).bind (·.dst)=o.dst:=by rw[ho];rfl
 have hl:=(mem_ready.1 hr).1;refine⟨?_,?_,fun j d hj hlj=>?_,fun t ht=>?_,fun j hj hlj=>?_,fun j oj hoj hlj jd hjd=>?_⟩
 ·rw[←h.defers];cases o.dst<;>rfl
 ·rw[←h.size];cases o.dst<;>simp[Act.put]
 ·by_cases e:j=i
  ·subst e
   rw[hio] at hj;rw[hj,if_pos rfl,←h.size];simp[Act.put,Array.getElem?_setIfInBounds]
  ·have hl2:=(Ik hlj).resolve_left e
   rw[if_neg e,←h.here j d hj hl2];cases hd:o.dst with
   |none=>rfl
   |some d'=>
    have hne:d'≠d:=fun e'=>by subst e';exact h4 j d' e hd hj
    simp[Act.put,Array.getElem?_setIfInBounds_ne hne]
 ·have hlt:i<listed.size:=by
   rcases Nat.lt_or_ge i listed.size with h|h
   ·exact h
   ·rw[Array.getD_eq_getD_getElem?,Array.getElem?_eq_none h] at hl;cases hl
  rw[←h.other t (fun j hj=>ht j (by
   by_cases e:j=i
   ·subst e;exact Gp hlt
   ·rw[getD_set_ne true (fun e'=>e e'.symm)];exact hj))]
  have h5:=ht i (Gp hlt);rw[hio] at h5;cases hd:o.dst with
  |none=>rfl
  |some d'=>
   have hne:d'≠t:=fun e'=>h5 (by rw[hd,e'])
   simp[Act.put,Array.getElem?_setIfInBounds_ne hne]
 ·by_cases e:j=i
  ·subst e;rw[if_pos rfl];exact hv
  ·rw[if_neg e];exact(Φ j).mono _ _ _ (h.facts j hj ((Ik hlj).resolve_left e)) hb
 ·refine Pb ?_
  by_cases e:j=i
  ·subst e
   rw[ho] at hoj;cases hoj;exact KT (MO ho hr jd hjd).1
  ·exact h.closed j oj hoj ((Ik hlj).resolve_left e) jd hjd
def KJ (P:Program) (ops:Array Oper) (a0:Act) (R:World→Prop) (Φ:Nat→LA):Nat→List Oper→Prop
 |_,[]=>True
 |i,o::os=>(∃js,Vh ops i o js=true∧SQ P ops a0 R Φ i o js)∧KJ P ops a0 R Φ (i+1) os
theorem KJ.all {P:Program} {ops:Array Oper} {a0:Act} {R:World→Prop} {Φ:Nat→LA}:∀(l:List Oper) (i:Nat),KJ P ops a0 R Φ i l→∀j o,l[j]?=some o→∃js,Vh ops (i+j) o js=true∧SQ P ops a0 R Φ (i+j) o js
 |[],_,_,j,o,h=>by simp at h
 |o'::os,i,⟨h1,h2⟩,j,o,h=>by
  cases j with
  |zero=>simp at h;subst h;exact h1
  |succ j=>have:=KJ.all os (i+1) h2 j o (by simpa using h);rw[show i+(j+1)=i+1+j by omega];exact this
theorem KJ.nil {i:Nat}:KJ P ops a0 R Φ i []:=trivial
theorem KJ.cons {i:Nat} {o:Oper} {os:List Oper} (js:List (Nat×Option Tmp)) (hjs:Vh ops i o js=true) (h:SQ P ops a0 R Φ i o js) (hs:KJ P ops a0 R Φ (i+1) os):KJ P ops a0 R Φ i (o::os):=
 ⟨⟨js,hjs,h⟩,hs⟩
end
def facts (l:List LA) (i:Nat):LA:=l.getD i LA.any
variable [Ghost]
structure Nd where
 is:World→Prop
 mono:∀x y,is x→Below x.heap.size x y→is y
def II:List Nd→World→Prop
 |[],_=>True
 |c::cs,w=>c.is w∧II cs w
theorem II.below:∀{cs:List Nd} {w x:World},II cs w→Below w.heap.size w x→II cs x
 |[],_,_,_,_=>trivial
 |c::cs,_,_,⟨h,hs⟩,hb=>⟨c.mono _ _ h hb,II.below hs hb⟩
theorem II.alloc {cs:List Nd} {w:World} (h:II cs w) (o:Go.Obj):II cs (w.alloc o):=h.below ((Below.refl _ _).alloc (Nat.le_refl _) _)
theorem II.drew {cs:List Nd} {w:World} (h:II cs w):II cs w.drew:=h.below (Below.refl _ _).drew
theorem II.drewN {cs:List Nd} {w:World} (h:II cs w) (n:Nat):II cs (w.drewN n):=h.below (CA w _ n (Below.refl _ _))
theorem II.push {c:Nd} {cs:List Nd} {w:World} (h:II cs w) (hc:c.is w):II (c::cs) w:=⟨hc,h⟩
@[reducible, simp, go_sem] def z21:Array Value:=#[.slice none 0 0,.slice none 0 0,.int .i64 0,.int .i64 0,.slice none 0 0,.slice none 0 0,.bool false,.slice none 0 0,.slice none 0 0,.int .i64 0,.int .i64 0,.slice none 0 0,.slice none 0 0,.bool false,.slice none 0 0,.slice none 0 0,.int .i64 0,.int .i64 0,.slice none 0 0,.slice none 0 0,.bool false]
@[reducible, simp, go_sem] def z7:Array Value:=#[.slice none 0 0,.slice none 0 0,.int .i64 0,.int .i64 0,.slice none 0 0,.slice none 0 0,.bool false]
section
variable {P:Program} {md:Region.Mode} {ops:Array Oper} {Q:Exit→Act→World→Prop} {S:World→Prop}
theorem tk (i:Nat) {oi:Oper} (v:Value) {fuel:Nat} {listed:Array Bool} {a:Act} {w:World} (hy:∀w,S w→(execOp a.eval oi).run P w=.ok (.value v) w) (hS:S w)
    (h:wpAnyH P md ops Q S fuel (listed.setIfInBounds i true) (a.put oi.dst v) w) (hi:ops[i]?=some oi:=by rfl)
    (hs:Region.noSelect ops=true:=by kernel_rfl) (hf:Region.free md ops listed i=true:=by kernel_rfl) (hr:(Region.ready md ops listed).contains i=true:=by kernel_rfl)
    (hQ:∀c a w,Q (.panic c) (a.put oi.dst v) w→Q (.panic c) a w:=by exact fun _ _ _ h=>h) (hw:Region.wanted oi (yielded ops a.tmps)=true:=by rfl):wpAnyH P md ops Q S (fuel+1) listed a w:=
  wpAnyH_take hi hs hf hr hQ (Or.inl ⟨hw,hy⟩) hS h
theorem tk0 (i:Nat) {o:Oper} (v:Value) {fuel:Nat} {listed:Array Bool} {a:Act} {w:World} (hy:∀w,(execOp a.eval o).run P w=.ok (.value v) w)
    (h:wpAny P md ops Q fuel (listed.setIfInBounds i true) (a.put o.dst v) w) (ho:ops[i]?=some o:=by rfl)
    (hs:Region.noSelect ops=true:=by kernel_rfl) (hf:Region.free md ops listed i=true:=by kernel_rfl) (hr:(Region.ready md ops listed).contains i=true:=by kernel_rfl)
    (hQ:∀c a w,Q (.panic c) (a.put o.dst v) w→Q (.panic c) a w:=by exact fun _ _ _ h=>h) (hw:Region.wanted o (yielded ops a.tmps)=true:=by rfl):wpAny P md ops Q (fuel+1) listed a w:=
  WJ i v ho hs hf hr hQ hw hy h
theorem tk1 (i:Nat) {o:Oper} {fuel:Nat} {listed:Array Bool} {a:Act} {w:World} (h:∀K:Act→World→Prop,(∀a w,wpAny P md ops Q fuel (listed.setIfInBounds i true) a w→K a w)→o.wp P a w K Q)
    (hr:Region.ready md ops listed=[i]:=by kernel_rfl) (ho:ops[i]?=some o:=by rfl) (hw:Region.wanted o (yielded ops a.tmps)=true:=by rfl):wpAny P md ops Q (fuel+1) listed a w:=YG i hr ho hw h
theorem al1 (i:Nat) {fuel:Nat} {listed:Array Bool} {a:Act} {w:World} (h:wpOp P ops Q i (fun a' w'=>S w'∧wpAnyH P md ops Q S fuel (listed.setIfInBounds i true) a' w') a w) (hr:Region.ready md ops listed=[i]:=by kernel_rfl):wpAnyH P md ops Q S (fuel+1) listed a w:=
  wpAnyH_all hr (by simp) fun j hj => by obtain rfl:j=i:=by simpa using hj
                                         exact h
theorem al2 (i k:Nat) {fuel:Nat} {listed:Array Bool} {a:Act} {w:World} (h:wpOp P ops Q i (fun a' w'=>S w'∧wpAnyH P md ops Q S fuel (listed.setIfInBounds i true) a' w') a w) (h2:wpOp P ops Q k (fun a' w'=>S w'∧wpAnyH P md ops Q S fuel (listed.setIfInBounds k true) a' w') a w) (hr:Region.ready md ops listed=[i,k]:=by kernel_rfl):wpAnyH P md ops Q S (fuel+1) listed a w:=
  wpAnyH_all hr (by simp) fun j hj=>by
    rcases List.mem_cons.1 hj with rfl|hj
    ·exact h
    · obtain rfl:j=k:=by simpa using hj
      exact h2
end
theorem tkS:(∀(a:Act) (d:Tmp) (v:Value),a.put (some d) v={a with tmps:=a.tmps.setIfInBounds d v})∧(∀(a:Act) (v:Value),a.put none v=a)∧(∀{α:Type} (a:α) (l:List α) (h:0<(a::l).length),(a::l)[0]'h=a)∧(∀{α:Type} (a:α) (l:List α) (i:Nat) (h:i+1<(a::l).length),(a::l)[i+1]'h=l[i]'(Nat.lt_of_succ_lt_succ h))∧(∀{α:Type} (l:List α) (i:Nat) (h:i<l.toArray.size),l.toArray[i]'h=l[i]'(by simpa using h))∧(∀{α:Type} (l:List α) (i:Nat) (a:α),l.toArray.setIfInBounds i a=(l.set i a).toArray)∧(∀{α:Type} (a b:α) (l:List α),(a::l).set 0 b=b::l)∧(∀{α:Type} (a b:α) (l:List α) (i:Nat),(a::l).set (i+1) b=a::l.set i b):=
  ⟨fun _ _ _=>rfl,fun _ _=>rfl,fun _ _ _=>rfl,fun _ _ _ _=>rfl,fun _ _ _=>rfl,fun _ _ _=>by simp,fun _ _ _=>rfl,fun _ _ _ _=>rfl⟩
theorem bc7 {w:World} {b:Nat} {v0 v1 v2 v3 v4 v5 v6:Value} {t:TypeId} {fr:Nat×Nat} (h:w.heap[b]?=some (.cells #[v0,v1,v2,v3,v4,v5,v6] t fr)):w.cell? ⟨b,0,none⟩=some v0∧w.cell? ⟨b,1,none⟩=some v1∧w.cell? ⟨b,2,none⟩=some v2∧w.cell? ⟨b,3,none⟩=some v3∧w.cell? ⟨b,4,none⟩=some v4∧w.cell? ⟨b,5,none⟩=some v5∧w.cell? ⟨b,6,none⟩=some v6:=
  ⟨Aa h rfl,Aa h rfl,Aa h rfl,Aa h rfl,Aa h rfl,Aa h rfl,Aa h rfl⟩
theorem bf7 {w:World} {b:Nat} {cs:Array Value} {t:TypeId} (h:w.heap[b]?=some (.cells cs t (0,0))):w.frozen? ⟨b,0,none⟩=false∧w.frozen? ⟨b,1,none⟩=false∧w.frozen? ⟨b,2,none⟩=false∧w.frozen? ⟨b,3,none⟩=false∧w.frozen? ⟨b,4,none⟩=false∧w.frozen? ⟨b,5,none⟩=false∧w.frozen? ⟨b,6,none⟩=false:=
  ⟨Ad h,Ad h,Ad h,Ad h,Ad h,Ad h,Ad h⟩
theorem bal {w:World} {o:Go.Obj}:Below w.heap.size w (w.alloc o):=(Below.refl _ _).alloc (Nat.le_refl _) _
theorem su (D j:Nat) (w:World) (v:Value):AK (fun b=>b=D) w (w.setCell ⟨D,j,none⟩ v):=(AK.refl (fun b=>b=D) w).setCell (p:=⟨D,j,none⟩) (fun _=>rfl) _
theorem sb {w:World} {D:Nat} {u:Value} {t:TypeId} (h:w.heap[D]?=some (.cells #[u] t (0,0))) (v:Value):(w.setCell ⟨D,0,none⟩ v).heap[D]?=some (.cells #[v] t (0,0)):=Ah (j:=0) h v
theorem rh {P:Program} {ops:Array Oper} {Q:Exit→Act→World→Prop} {id:Nat} {a:Act} {w:World} (S:World→Prop) (h:wpAnyH P .any ops Q S ops.size (Array.replicate ops.size false) a w.drew) (hm:P.follows .mixedOrders=true:=by kernel_rfl):(Code.region id ops true).wp P Q a w:=wp_region_held hm h
theorem zk (k:Nat):(0:Int)≤(k:Int):=by omega
theorem bc2 {w:World} {b:Nat} {v0 v1:Value} {t:TypeId} {fr:Nat×Nat} (h:w.heap[b]?=some (.cells #[v0,v1] t fr)):w.cell? ⟨b,0,none⟩=some v0∧w.cell? ⟨b,1,none⟩=some v1:=
  ⟨Aa h rfl,Aa h rfl⟩
theorem bf2 {w:World} {b:Nat} {cs:Array Value} {t:TypeId} (h:w.heap[b]?=some (.cells cs t (0,0))):w.frozen? ⟨b,0,none⟩=false∧w.frozen? ⟨b,1,none⟩=false:=
  ⟨Ad h,Ad h⟩
theorem bc3 {w:World} {b:Nat} {v0 v1 v2:Value} {t:TypeId} {fr:Nat×Nat} (h:w.heap[b]?=some (.cells #[v0,v1,v2] t fr)):w.cell? ⟨b,0,none⟩=some v0∧w.cell? ⟨b,1,none⟩=some v1∧w.cell? ⟨b,2,none⟩=some v2:=
  ⟨Aa h rfl,Aa h rfl,Aa h rfl⟩
theorem bf3 {w:World} {b:Nat} {cs:Array Value} {t:TypeId} (h:w.heap[b]?=some (.cells cs t (0,0))):w.frozen? ⟨b,0,none⟩=false∧w.frozen? ⟨b,1,none⟩=false∧w.frozen? ⟨b,2,none⟩=false:=
  ⟨Ad h,Ad h,Ad h⟩
theorem bc4 {w:World} {b:Nat} {v0 v1 v2 v3:Value} {t:TypeId} {fr:Nat×Nat} (h:w.heap[b]?=some (.cells #[v0,v1,v2,v3] t fr)):w.cell? ⟨b,0,none⟩=some v0∧w.cell? ⟨b,1,none⟩=some v1∧w.cell? ⟨b,2,none⟩=some v2∧w.cell? ⟨b,3,none⟩=some v3:=
  ⟨Aa h rfl,Aa h rfl,Aa h rfl,Aa h rfl⟩
theorem bf4 {w:World} {b:Nat} {cs:Array Value} {t:TypeId} (h:w.heap[b]?=some (.cells cs t (0,0))):w.frozen? ⟨b,0,none⟩=false∧w.frozen? ⟨b,1,none⟩=false∧w.frozen? ⟨b,2,none⟩=false∧w.frozen? ⟨b,3,none⟩=false:=
  ⟨Ad h,Ad h,Ad h,Ad h⟩
theorem zh {p:Prop} (h:p):Hid p:=Lib.hid h
end Go.Proofs.YtgbnlmplkealdaaGreatDoor
