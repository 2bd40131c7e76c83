
/- Open: Open, Open2, Open3. -/
import Derived.ProofKit
import Derived.SizedLaws
import Derived.OpenShut
import Derived.Lib.SmallJoins
import Derived.Deep.Slices
import Derived.Deep.Strs
import Derived.SevenTiedAt
import Derived.Test.YtgbnlmplkealdaaGreatDoorC34
import Derived.LaidSub
import Derived.MakeChecks
import Derived.Lib.LaidTab
set_option linter.all false
set_option maxRecDepth 100000
namespace Go.Proofs.YtgbnlmplkealdaaGreatDoor
open Go.ChangeShapes Go.WideShapes Go.ChangeAt Go.RowKit Go.Deep
class GhostAll [Ghost] (W:World):Prop where
 all:∀b,b<W.heap.size→Ghost.frz b
variable [Ghost]
theorem Zn:ownKnob Tryz.prog.godebug=none:=by kernel_rfl
theorem MA:laidOutB Tryz.prog=true:=by kernel_rfl
theorem FC:Tryz.prog.cellsOf 3=1:=by kernel_rfl
theorem UK:Tryz.prog.bytesOf 3=8:=by kernel_rfl
theorem Qk:Tryz.prog.cellsOf 96=4:=by kernel_rfl
theorem Qi:Tryz.prog.bytesOf 96=56:=by kernel_rfl
section
variable {H:Type} {enc:TypeId×Value→H} {W:World} [GhostAll W] {base:Nat}
def IR (t:TypeId) (d:DataW H):Prop:=∀n∈d.weights Tryz.prog t,n≤140737488351232
theorem PG {ts:List TypeId} {ds:List (DataW H)} (h:(DataW.weightsEach Tryz.prog ts ds).all (·≤reachBytes)=true) (j:Nat) {t:TypeId} {d:DataW H} (ht:ts[j]?=some t) (hd:ds[j]?=some d):IR t d:=by
 intro n hn;have:=List.all_eq_true.1 h _ (DataW.weights_mem_each ht hd n hn);have h2:n≤reachBytes:=of_decide_eq_true this;exact h2
theorem TD {fuel:Nat} {v:Value} {x:DataW H×List MemPlace} (hf:DataW.trod enc Tryz.prog W base (fun _=>true) true fuel 94 [v]=some x) (hw:IR 94 x.1):
  ∃xs,Bb (fun b=>b<W.heap.size) W v xs:=by
 rcases open_ints Tryz.underlying94 Tryz.underlying3 FC hf with⟨hcs,_⟩|⟨a,len,cap,zs,hcs,_,hl,hm,hz,hx,hcell,hwz⟩
 ·simp at hcs;subst hcs
  exact⟨[],Bb.nil _ _ _ _ (by omega)⟩
 ·simp at hcs;subst hcs
  simp only[if_true] at hz;have hm':cap≤9223372036854775807:=by simpa[maxLen] using hm
  have h8:(zs.take len).length=len:=by simp;omega
  have hb:len*8≤140737488351232:=by
   have:=hw ((((lits (H:=H) .i64 (zs.take len)).length+(lits (H:=H) .i64 (zs.drop len)).length))*8) (by
    subst hx;simp only[DataW.weights,Tryz.underlying94,UK];exact List.mem_cons_self)
   simp only[lits,List.length_map,List.length_take,List.length_drop] at this;omega
  refine⟨zs.take len,?_⟩;by_cases h0:len=0
  ·subst h0;simp only[List.take_zero];exact Bb.nil _ _ _ _ hm'
  obtain⟨b,off,spot⟩:=a;have hspot:spot=none:=by simpa[Addr.add] using World.cell?_spot (hcell 0 (by omega))
  subst hspot;have hbl:b<W.heap.size:=World.block_lt_of_cell? W _ (hcell 0 (by omega));have:=Bb.mk (S:=fun b=>b<W.heap.size) (w:=W) (xs:=zs.take len) (b:=b) (off:=off) (cap:=cap) (by omega) hm' (by omega) ⟨hbl,.inl (GhostAll.all _ hbl)⟩ (fun i hi=>by
   have h1:=hcell i (by omega);have h2:(zs.take len)[i]?=zs[i]?:=by rw[List.getElem?_take];simp;omega
   have h3:Ct (zs.take len) i=zs.getD i 0:=by unfold Ct at_;simp only[List.getD_eq_getElem?_getD,h2]
   rw[h3];rw[←add_plain];exact h1) (fun z hz=>by
   have:=hwz z (List.mem_of_mem_take hz);have h1:IntKind.i64.min=-9223372036854775808:=rfl;have h2:IntKind.i64.max=9223372036854775807:=rfl;simp only[Lit.wf,Bool.and_eq_true,decide_eq_true_eq] at this;unfold Dy;omega)
  rw[h8] at this;exact this
theorem FW {n:Int} (h:(Lit.int .i64 n).wf=true):Dy n:=by
 have h1:IntKind.i64.min=-9223372036854775808:=rfl;have h2:IntKind.i64.max=9223372036854775807:=rfl;simp only[Lit.wf,Bool.and_eq_true,decide_eq_true_eq] at h;unfold Dy;omega
theorem TC {n:Nat} {c0 c1 c2 c3:Value} {y0 y1 y2 y3:DataW H×List MemPlace}
  (h0:DataW.trod enc Tryz.prog W base (fun _=>true) true n 3 [c0]=some y0) (h1:DataW.trod enc Tryz.prog W base (fun _=>true) true n 3 [c1]=some y1)
  (h2:DataW.trod enc Tryz.prog W base (fun _=>true) true n 94 [c2]=some y2) (h3:DataW.trod enc Tryz.prog W base (fun _=>true) true n 9 [c3]=some y3)
  (hw:IR 96 (.agg [y0.1,y1.1,y2.1,y3.1])):
  ∃o:Obj,c0=.int .i64 o.id∧c1=.int .i64 o.kind∧c3=.string o.text∧Bu (fun b=>b<W.heap.size) W o c2:=by
 have hw2:IR 94 y2.1:=fun m hm=>hw m (by
  simp only[DataW.weights,Tryz.underlying96,DataW.weightsEach,List.map_cons,List.map_nil,List.mem_append];exact Or.inr (Or.inr (Or.inl hm)))
 have hw3:IR 9 y3.1:=fun m hm=>hw m (by
  simp only[DataW.weights,Tryz.underlying96,DataW.weightsEach,List.map_cons,List.map_nil,List.mem_append];exact Or.inr (Or.inr (Or.inr (Or.inl hm))))
 obtain⟨i0,e0,_,w0⟩:=DataW.trod_int Tryz.underlying3 h0;obtain⟨i1,e1,_,w1⟩:=DataW.trod_int Tryz.underlying3 h1;obtain⟨s,e3,hy3,_⟩:=DataW.trod_string Tryz.underlying9 h3;obtain⟨xs,hxs⟩:=TD h2 hw2;simp at e0 e1 e3;subst e0;subst e1;subst e3;refine⟨⟨i0,i1,xs,s⟩,rfl,rfl,rfl,hxs,FW w0,FW w1,?_⟩;have:=hw3 s.data.toList.length (by subst hy3;simp[DataW.weights]);simpa using this
end
variable [Ghost]
theorem Ia:Tryz.prog.cellsOf 9=1:=by kernel_rfl
theorem SX:Tryz.prog.cellsOf 94=1:=by kernel_rfl
theorem UN:Tryz.prog.cellsOf 86=2:=by kernel_rfl
theorem UL:Tryz.prog.bytesOf 86=24:=by kernel_rfl
section
variable {H:Type} {enc:TypeId×Value→H} {W:World} [GhostAll W] {base:Nat}
theorem Un (b off i:Nat):(⟨b,off,none⟩:Addr).add i=⟨b,off+i,none⟩:=by
 unfold Addr.add;split<;>simp_all
theorem SK {e:TypeId} {l:List (DataW H)} {d:DataW H} {n:Nat} (hd:d∈l) (hn:n∈d.weights Tryz.prog e):n∈DataW.weightsAll Tryz.prog e l:=by
 induction l with
 |nil=>cases hd
 |cons a l ih=>
  rw[DataW.weightsAll,List.mem_append];rcases List.mem_cons.1 hd with rfl|hd
  ·exact .inl hn
  ·exact .inr (ih hd)
theorem JG {α:Type} [Inhabited α] {t e:TypeId} {k bts:Nat} (ht:Tryz.prog.underlying t=some (.slice e)) (hk:Tryz.prog.cellsOf e=k) (hk0:0<k) (hbt:Tryz.prog.bytesOf e=bts) (hb0:0<bts) (E:α→List Value→Prop)
  (hE:∀n cs' y,DataW.trod enc Tryz.prog W base (fun _=>true) true n e cs'=some y→cs'.length=k→IR e y.1→∃x,E x cs')
  {fuel:Nat} {v:Value} {x:DataW H×List MemPlace} (hf:DataW.trod enc Tryz.prog W base (fun _=>true) true fuel t [v]=some x) (hw:IR t x.1):
  ∃(xs:List α) (css:Nat→List Value),Sl (fun b=>b<W.heap.size) W v k bts xs.length css∧∀i (hi:i<xs.length),E xs[i] (css i):=by
 rcases open_slice ht hf with⟨hcs,_⟩|⟨a,len,cap,m,n,D,Pl,hcs,hbase,hl,hm,hmm,hx,hel⟩
 ·simp at hcs;subst hcs
  exact⟨[],fun _=>[],⟨none,0,rfl,Nat.le_refl _,by omega,by simp,fun h=>absurd h (by simp)⟩,fun i hi=>by simp at hi⟩
 ·simp at hcs;subst hcs
  simp only[if_true] at hmm;subst hmm;have hm':m≤9223372036854775807:=by simpa[maxLen] using hm
  rw[hk] at hel;have hlen:len*bts≤140737488351232:=by
   have:=hw ((len+(m-len))*bts) (by
    subst hx;simp only[DataW.weights,ht,hbt,List.length_map,List.length_range];exact List.mem_cons_self)
   have:len*bts≤(len+(m-len))*bts:=Nat.mul_le_mul_right _ (by omega);omega
  have hfit:∀i,i<len→IR e (D i):=fun i hi n hn=>hw n (by
   subst hx;simp only[DataW.weights,ht];refine List.mem_cons_of_mem _ (List.mem_append_left _ ?_);exact SK (List.mem_map.2 ⟨i,by simpa using hi,rfl⟩) hn)
  have hch:∀i,i<len→∃p:α×List Value,W.cells? base (a.add (i*k)) k=some p.2∧E p.1 p.2:=fun i hi=>by
   obtain⟨cs',h1,h2⟩:=hel i (by omega);obtain⟨y,hy⟩:=hE n cs' _ h2 (World.cells?_some h1).2.1 (hfit i hi);exact⟨(y,cs'),h1,hy⟩
  obtain⟨f,hf2⟩:=choose_lt hch;refine⟨(List.range len).map fun i=>(f i).1,fun i=>(f i).2,?_,fun i hi=>?_⟩
  ·rw[List.length_map,List.length_range]
   refine⟨some a,m,rfl,hl,hm',hlen,fun hp=>?_⟩;obtain⟨b,off,spot⟩:=a;have h0:=(World.cells?_some (hf2 0 hp).1);have h00:=h0.2.2 0 hk0;rw[List.getElem?_eq_getElem (by rw[h0.2.1];exact hk0)] at h00;have hspot:spot=none:=by simpa[Addr.add] using World.cell?_spot h00
   subst hspot;refine⟨b,off,rfl,?_,fun i hi j u hu=>?_⟩
   ·have hbl:b<W.heap.size:=by
     have:=World.block_lt_of_cell? W _ h00;simpa[Addr.add] using this
    exact⟨hbl,.inl (GhostAll.all _ hbl)⟩
   ·have hi2:=World.cells?_some (hf2 i hi).1
    have hj:j<k:=by
     rcases Nat.lt_or_ge j (f i).2.length with h'|h'
     ·rw[←hi2.2.1];exact h'
     ·have hu':(f i).2[j]?=some u:=hu
      rw[List.getElem?_eq_none h'] at hu';cases hu'
    have:=hi2.2.2 j hj;rw[Un,Un] at this;rw[this];exact hu
  ·simp only[List.length_map,List.length_range] at hi
   simp only[List.getElem_map,List.getElem_range];exact(hf2 i hi).2
theorem Vx {fuel:Nat} {v:Value} {x:DataW H×List MemPlace} (hf:DataW.trod enc Tryz.prog W base (fun _=>true) true fuel 32 [v]=some x) (hw:IR 32 x.1):
  ∃l,AB (fun b=>b<W.heap.size) W v l:=by
 haveI:Inhabited Rf:=⟨bG⟩;obtain⟨xs,css,h1,h2⟩:=JG Tryz.underlying32 UN (by decide) UL (by decide) (fun(r:Rf) cs=>cs=[.string r.name,.int .i64 r.id]∧Dy r.id∧r.name.size≤140737488351232) (fun n cs' y hy hl hfit=>by
  match cs',hl with
  | [c0,c1],_=>
   obtain⟨y0,y1,m,hx,_,h0,h1⟩:=trod_struct2 Tryz.underlying86 hy;simp only[List.drop_zero,Ia,FC,List.take_succ_cons,List.take_zero,List.drop_succ_cons] at h0 h1;obtain⟨s,e0,hy0,_⟩:=DataW.trod_string Tryz.underlying9 h0;obtain⟨i,e1,_,w1⟩:=DataW.trod_int Tryz.underlying3 h1;simp at e0 e1;subst e0;subst e1;subst hx;refine⟨⟨s,i⟩,rfl,FW w1,?_⟩;have:=hfit s.data.toList.length (by
    simp only[DataW.weights,Tryz.underlying86,DataW.weightsEach,List.map_cons,List.map_nil,List.mem_append];subst hy0;exact .inl (by simp[DataW.weights]))
   simpa using this) hf hw
 have he:∀i,i<xs.length→css i=[.string (rf xs i).name,.int .i64 (rf xs i).id]:=fun i hi=>by rw[DB hi];exact(h2 i hi).1
 refine⟨xs,?_,fun r hr=>?_⟩
 ·obtain⟨a,cap,hv,g1,g2,g3,g4⟩:=h1
  refine⟨a,cap,hv,g1,g2,g3,fun hn=>?_⟩;obtain⟨b,off,ha,hS,hc⟩:=g4 hn;exact⟨b,off,ha,hS,fun i hi j u hu=>hc i hi j u (by rw[he i hi];exact hu)⟩
 ·obtain⟨i,hi,rfl⟩:=List.getElem_of_mem hr
  exact(h2 i hi).2
theorem Oh {fuel:Nat} {v:Value} {x:DataW H×List MemPlace} (hf:DataW.trod enc Tryz.prog W base (fun _=>true) true fuel 25 [v]=some x) (hw:IR 25 x.1):
  ∃l,Ai (fun b=>b<W.heap.size) W v l:=by
 haveI:Inhabited Obj:=⟨aI⟩;obtain⟨xs,css,h1,h2⟩:=JG Tryz.underlying25 Qk (by decide) Qi (by decide) (fun(o:Obj) cs=>∃lv,cs=AG o lv∧Bu (fun b=>b<W.heap.size) W o lv) (fun n cs' y hy hl hfit=>by
  match cs',hl with
  |[c0,c1,c2,c3],_=>
   obtain⟨y0,y1,y2,y3,m,hx,_,h0,h1,h2,h3⟩:=Joins.trod_struct4 Tryz.underlying96 hy;simp only[List.drop_zero,Ia,FC,SX,List.take_succ_cons,List.take_zero,List.drop_succ_cons] at h0 h1 h2 h3;subst hx;obtain⟨o,rfl,rfl,rfl,ho⟩:=TC h0 h1 h2 h3 hfit;exact⟨o,c2,rfl,ho⟩) hf hw
 obtain⟨lvs,hlv⟩:=choose_lt (p:=fun i lv=>css i=AG (obj xs i) lv∧Bu (fun b=>b<W.heap.size) W (obj xs i) lv) (n:=xs.length) (fun i hi=>by
  obtain⟨lv,e,ho⟩:=h2 i hi;rw[Dm hi];exact⟨lv,e,ho⟩)
 refine⟨xs,lvs,?_,fun i hi=>(hlv i hi).2⟩;obtain⟨a,cap,hv,g1,g2,g3,g4⟩:=h1;refine⟨a,cap,hv,g1,g2,g3,fun hn=>?_⟩;obtain⟨b,off,ha,hS,hc⟩:=g4 hn;exact⟨b,off,ha,hS,fun i hi j u hu=>hc i hi j u (by rw[(hlv i hi).1];exact hu)⟩
end
variable [Ghost]
theorem SW:Tryz.prog.cellsOf 4=1:=by kernel_rfl
theorem SY:Tryz.prog.cellsOf 32=1:=by kernel_rfl
theorem JQ:Tryz.prog.cellsOf 25=1:=by kernel_rfl
theorem OU:Tryz.prog.cellsOf 26=1:=by kernel_rfl
theorem Ql:Tryz.prog.cellsOf 88=3:=by kernel_rfl
theorem Qj:Tryz.prog.bytesOf 88=32:=by kernel_rfl
theorem Nn:Tryz.prog.cellsOf 28=3:=by kernel_rfl
theorem OT:Tryz.prog.cellsOf 34=7:=by kernel_rfl
section
variable {H:Type} {enc:TypeId×Value→H} {W:World} [GhostAll W] {base:Nat}
theorem Ly {P:Program} {spare:Nat→Bool} {held:Bool} {t:TypeId} {f0 f1 f2 f3 f4:Field} {fuel:Nat} {cs:List Value} {x:DataW H×List MemPlace} (ht:P.underlying t=some (.struct #[f0,f1,f2,f3,f4])) (h:DataW.trod enc P W base spare held fuel t cs=some x):
  ∃y0 y1 y2 y3 y4 n,x=(.agg [y0.1,y1.1,y2.1,y3.1,y4.1],y0.2++(y1.2++(y2.2++(y3.2++y4.2))))∧cs.length=P.cellsOf t∧DataW.trod enc P W base spare held n f0.type ((cs.drop f0.offset).take (P.cellsOf f0.type))=some y0∧
   DataW.trod enc P W base spare held n f1.type ((cs.drop f1.offset).take (P.cellsOf f1.type))=some y1∧DataW.trod enc P W base spare held n f2.type ((cs.drop f2.offset).take (P.cellsOf f2.type))=some y2∧
   DataW.trod enc P W base spare held n f3.type ((cs.drop f3.offset).take (P.cellsOf f3.type))=some y3∧DataW.trod enc P W base spare held n f4.type ((cs.drop f4.offset).take (P.cellsOf f4.type))=some y4:=by
 obtain⟨xs,n,_,rfl,hl,hlen,hf⟩:=DataW.trod_struct ht h
 match xs,hlen with
 |[y0,y1,y2,y3,y4],_=>exact⟨y0,y1,y2,y3,y4,n,by simp,hl,by simpa using hf 0 f0 rfl,by simpa using hf 1 f1 rfl,by simpa using hf 2 f2 rfl,by simpa using hf 3 f3 rfl,by simpa using hf 4 f4 rfl⟩
theorem QD {fuel:Nat} {v:Value} {x:DataW H×List MemPlace} (hf:DataW.trod enc Tryz.prog W base (fun _=>true) true fuel 26 [v]=some x) (hw:IR 26 x.1):
  ∃l,AJ (fun b=>b<W.heap.size) W v l:=by
 haveI:Inhabited Mv:=⟨aV⟩;obtain⟨xs,css,h1,h2⟩:=JG Tryz.underlying26 Ql (by decide) Qj (by decide) (fun(r:Mv) cs=>cs=Bw r∧Dy r.old∧Dy r.new∧r.name.size≤140737488351232) (fun n cs' y hy hl hfit=>by
  match cs',hl with
  | [c0,c1,c2],_=>
   obtain⟨y0,y1,y2,m,hx,_,h0,h1,h2⟩:=trod_struct3 Tryz.underlying88 hy;simp only[List.drop_zero,Ia,FC,List.take_succ_cons,List.take_zero,List.drop_succ_cons] at h0 h1 h2;obtain⟨s,e0,hy0,_⟩:=DataW.trod_string Tryz.underlying9 h0;obtain⟨i,e1,_,w1⟩:=DataW.trod_int Tryz.underlying3 h1;obtain⟨j,e2,_,w2⟩:=DataW.trod_int Tryz.underlying3 h2;simp at e0 e1 e2;subst e0;subst e1;subst e2;subst hx;refine⟨⟨s,i,j⟩,rfl,FW w1,FW w2,?_⟩;have:=hfit s.data.toList.length (by
    simp only[DataW.weights,Tryz.underlying88,DataW.weightsEach,List.map_cons,List.map_nil,List.mem_append];subst hy0;exact .inl (by simp[DataW.weights]))
   simpa using this) hf hw
 have he:∀i,i<xs.length→css i=Bw (mv xs i):=fun i hi=>by rw[Da hi];exact(h2 i hi).1
 refine⟨xs,?_,fun r hr=>?_⟩
 ·obtain⟨a,cap,hv,g1,g2,g3,g4⟩:=h1
  refine⟨a,cap,hv,g1,g2,g3,fun hn=>?_⟩;obtain⟨b,off,ha,hS,hc⟩:=g4 hn;exact⟨b,off,ha,hS,fun i hi j u hu=>hc i hi j u (by rw[he i hi];exact hu)⟩
 ·obtain⟨i,hi,rfl⟩:=List.getElem_of_mem hr
  exact(h2 i hi).2
theorem Js {fuel:Nat} {c0 c1 c2:Value} {x:DataW H×List MemPlace} (hf:DataW.trod enc Tryz.prog W base (fun _=>true) true fuel 28 [c0,c1,c2]=some x) (hw:IR 28 x.1):
  ∃p:BM,c2=.bool p.force∧Ai (fun b=>b<W.heap.size) W c0 p.objects∧AJ (fun b=>b<W.heap.size) W c1 p.updates:=by
 obtain⟨y0,y1,y2,m,hx,_,h0,h1,h2⟩:=trod_struct3 Tryz.underlying28 hf;simp only[List.drop_zero,JQ,OU,SW,List.take_succ_cons,List.take_zero,List.drop_succ_cons] at h0 h1 h2;subst hx;obtain⟨l,hl⟩:=Oh h0 (fun n hn=>hw n (by
  simp only[DataW.weights,Tryz.underlying28,DataW.weightsEach,List.map_cons,List.map_nil,List.mem_append];exact .inl hn))
 obtain⟨us,hus⟩:=QD h1 (fun n hn=>hw n (by
  simp only[DataW.weights,Tryz.underlying28,DataW.weightsEach,List.map_cons,List.map_nil,List.mem_append];exact .inr (.inl hn)))
 obtain⟨b,e2,_⟩:=DataW.trod_bool Tryz.underlying4 h2;simp at e2;subst e2;exact⟨⟨l,us,b⟩,rfl,hl,hus⟩
theorem ZM {α:Type} {cs:Array α} (h:cs.size=7):∃c0 c1 c2 c3 c4 c5 c6,cs=#[c0,c1,c2,c3,c4,c5,c6]:=by
 obtain⟨l⟩:=cs
 match l,h with
 |[c0,c1,c2,c3,c4,c5,c6],_=>exact⟨c0,c1,c2,c3,c4,c5,c6,rfl⟩
theorem Pg {fuel:Nat} {c0 c1 c2 c3 c4 c5 c6:Value} {x:DataW H×List MemPlace} (hf:DataW.trod enc Tryz.prog W base (fun _=>true) true fuel 34 [c0,c1,c2,c3,c4,c5,c6]=some x) (hw:IR 34 x.1):
  ∃q:Am,c2=.int .i64 q.gen∧c3=.int .i64 q.phase∧c6=.bool q.pend.force∧Ax (fun b=>b<W.heap.size) W q c0 c1 c4 c5:=by
 obtain⟨y0,y1,y2,y3,y4,m,hx,_,h0,h1,h2,h3,h4⟩:=Ly Tryz.underlying34 hf;simp only[List.drop_zero,JQ,SY,FC,Nn,List.take_succ_cons,List.take_zero,List.drop_succ_cons] at h0 h1 h2 h3 h4;subst hx;obtain⟨l,hl⟩:=Oh h0 (fun n hn=>hw n (by
  simp only[DataW.weights,Tryz.underlying34,DataW.weightsEach,List.map_cons,List.map_nil,List.mem_append];exact .inl hn))
 obtain⟨rs,hrs⟩:=Vx h1 (fun n hn=>hw n (by
  simp only[DataW.weights,Tryz.underlying34,DataW.weightsEach,List.map_cons,List.map_nil,List.mem_append];exact .inr (.inl hn)))
 obtain⟨g,e2,_,w2⟩:=DataW.trod_int Tryz.underlying3 h2;obtain⟨f,e3,_,w3⟩:=DataW.trod_int Tryz.underlying3 h3;simp at e2 e3;subst e2;subst e3;obtain⟨q,rfl,hq0,hq1⟩:=Js h4 (fun n hn=>hw n (by
  simp only[DataW.weights,Tryz.underlying34,DataW.weightsEach,List.map_cons,List.map_nil,List.mem_append];exact .inr (.inr (.inr (.inr (.inl hn))))))
 exact⟨⟨l,rs,g,f,q⟩,rfl,rfl,rfl,⟨hl,hrs,hq0,hq1,FW w2,FW w3⟩⟩
end
end Go.Proofs.YtgbnlmplkealdaaGreatDoor
namespace Go.Proofs.YtgbnlmplkealdaaGreatDoor
open Go.RowKit
variable [Ghost]
theorem XW:Tryz.prog.liftsFinal=false:=by kernel_rfl
theorem Zh:Tryz.prog.plainKeys=true:=by kernel_rfl
theorem XV:Tryz.prog.stopsHeard=true:=by kernel_rfl
theorem XU:Tryz.prog.mayEnter=true:=by kernel_rfl
theorem ZU:laidOutB Tryz.prog=true:=by kernel_rfl
theorem Zj:mapsRowed Tryz.prog=true:=by kernel_rfl
theorem Zi:Tryz.prog.make=some .cut:=by kernel_rfl
theorem XX:Tryz.prog.looks []=false:=by kernel_rfl
end Go.Proofs.YtgbnlmplkealdaaGreatDoor
namespace Go.Proofs.YtgbnlmplkealdaaGreatDoor
open Go.ChangeShapes Go.WideShapes Go.ChangeAt Go.RowKit Go.Deep
variable [Ghost]
theorem OR:Tryz.prog.bytesOf 34=120:=by kernel_rfl
theorem Np:Tryz.prog.cellsOf 22=1:=by kernel_rfl
theorem OS:Tryz.prog.cellsOf 24=1:=by kernel_rfl
section
variable {H:Type} {enc:TypeId×Value→H} {W:World} [GhostAll W] {base:Nat}
theorem Vy {fuel:Nat} {v:Value} {x:DataW H×List MemPlace} (hf:DataW.trod enc Tryz.prog W base (fun _=>true) true fuel 22 [v]=some x) (hw:IR 22 x.1):
  ∃l,Az (fun b=>b<W.heap.size) W v l:=by
 haveI:Inhabited Am:=⟨BE⟩;obtain⟨xs,css,h1,h2⟩:=JG Tryz.underlying22 OT (by decide) OR (by decide) (fun(r:Am) cs=>∃y:RV,cs=Ba r y∧ID (fun b=>b<W.heap.size) W r y) (fun n cs' y hy hl hfit=>by
  match cs',hl with
  |[c0,c1,c2,c3,c4,c5,c6],_=>
   obtain⟨q,rfl,rfl,rfl,h0⟩:=Pg hy hfit;exact⟨q,⟨c0,c1,c4,c5⟩,rfl,h0⟩) hf hw
 haveI:Inhabited RV:=⟨⟨.nilFunc,.nilFunc,.nilFunc,.nilFunc⟩⟩;obtain⟨lvs,hlv⟩:=choose_lt (p:=fun i y=>css i=Ba (Ag xs i) y∧ID (fun b=>b<W.heap.size) W (Ag xs i) y) (n:=xs.length) (fun i hi=>by
  obtain⟨y,e,ho⟩:=h2 i hi;rw[EA hi];exact⟨y,e,ho⟩)
 refine⟨xs,lvs,?_,fun i hi=>(hlv i hi).2⟩;obtain⟨a,cap,hv,g1,g2,g3,g4⟩:=h1;refine⟨a,cap,hv,g1,g2,g3,fun hn=>?_⟩;obtain⟨b,off,ha,hS,hc⟩:=g4 hn;exact⟨b,off,ha,hS,fun i hi j u hu=>hc i hi j u (by rw[(hlv i hi).1];exact hu)⟩
theorem QC {r:Reach} {b0:Nat} {v:Value} {d:DataW H} {p:List MemPlace} (hv:Value.okWide Tryz.prog W r b0 24 v)
  (h:DataW.Trod enc Tryz.prog W base (fun _=>true) true 24 v d p) (hw:IR 24 d):
  ∃(l:List Am) (cv:Value),v=.agg #[cv]∧Az (fun b=>b<W.heap.size) W cv l:=by
 obtain⟨cs,rfl,hsz⟩:=okWide_struct Tryz.underlying24 hv;obtain⟨c0,rfl⟩:∃c0,cs=#[c0]:=by
  obtain⟨l⟩:=cs
  match l,hsz.trans OS with
  |[c0],_=>exact⟨c0,rfl⟩
 obtain⟨fuel,hf⟩:=h;obtain⟨xs,n,_,e,hl,hlen,hfx⟩:=DataW.trod_struct Tryz.underlying24 (x:=(d,p)) (by simpa[Value.cells] using hf)
 match xs,hlen with
 | [y0],_=>
  have h0:DataW.trod enc Tryz.prog W base (fun _=>true) true n 22 [c0]=some y0:=by simpa[Np] using hfx 0 _ rfl
  cases e;obtain⟨l,hl⟩:=Vy h0 (fun n hn=>hw n (by
   simp only[DataW.weights,Tryz.underlying24,DataW.weightsEach,List.map_cons,List.map_nil,List.mem_append];exact .inl hn))
  exact⟨l,c0,rfl,hl⟩
end
variable [Ghost]
theorem UM:Tryz.prog.cellsOf 30=7:=by kernel_rfl
section
variable {H:Type} {enc:TypeId×Value→H} {W:World} [GhostAll W] {base:Nat}
theorem Pf {fuel:Nat} {c0 c1 c2 c3 c4 c5 c6:Value} {x:DataW H×List MemPlace} (hf:DataW.trod enc Tryz.prog W base (fun _=>true) true fuel 30 [c0,c1,c2,c3,c4,c5,c6]=some x) (hw:IR 30 x.1):
  ∃q:Ac,c0=.int .i64 q.kind∧c1=.int .i64 q.on∧c2=.int .i64 q.up∧c3=.int .i64 q.late∧c6=.bool q.push.force∧DC (fun b=>b<W.heap.size) W q c4 c5:=by
 obtain⟨y0,y1,y2,y3,y4,m,hx,_,h0,h1,h2,h3,h4⟩:=Ly Tryz.underlying30 hf;simp only[List.drop_zero,FC,Nn,List.take_succ_cons,List.take_zero,List.drop_succ_cons] at h0 h1 h2 h3 h4;subst hx;obtain⟨a,e0,_,w0⟩:=DataW.trod_int Tryz.underlying3 h0;obtain⟨b,e1,_,w1⟩:=DataW.trod_int Tryz.underlying3 h1;obtain⟨c,e2,_,w2⟩:=DataW.trod_int Tryz.underlying3 h2;obtain⟨d,e3,_,w3⟩:=DataW.trod_int Tryz.underlying3 h3;simp at e0 e1 e2 e3;subst e0;subst e1;subst e2;subst e3;obtain⟨q,rfl,hq0,hq1⟩:=Js h4 (fun n hn=>hw n (by
  simp only[DataW.weights,Tryz.underlying30,DataW.weightsEach,List.map_cons,List.map_nil,List.mem_append];exact .inr (.inr (.inr (.inr (.inl hn))))))
 exact⟨⟨a,b,c,d,q⟩,rfl,rfl,rfl,rfl,rfl,⟨hq0,hq1,FW w0,FW w1,FW w2,FW w3⟩⟩
theorem XS {r:Reach} {b0:Nat} {v:Value} {d:DataW H} {p:List MemPlace} (hv:Value.okWide Tryz.prog W r b0 30 v)
  (h:DataW.Trod enc Tryz.prog W base (fun _=>true) true 30 v d p) (hw:IR 30 d):
  ∃(q:Ac) (ov uv:Value),v=IS q ov uv∧DC (fun b=>b<W.heap.size) W q ov uv:=by
 obtain⟨cs,rfl,hsz⟩:=okWide_struct Tryz.underlying30 hv;obtain⟨c0,c1,c2,c3,c4,c5,c6,rfl⟩:=ZM (hsz.trans UM);obtain⟨fuel,hf⟩:=h;obtain⟨q,rfl,rfl,rfl,rfl,rfl,h0⟩:=Pf (x:=(d,p)) (by simpa[Value.cells] using hf) hw;exact⟨q,c4,c5,rfl,h0⟩
end
end Go.Proofs.YtgbnlmplkealdaaGreatDoor
namespace Go.Proofs.YtgbnlmplkealdaaGreatDoor
open Go.RowKit
variable [Ghost]
theorem SC {w:World} {l:List (String×DataW Unit)} (h:laidMetH Tryz.prog l w) (h1:(l.all fun x=>x.2.handleName?.isNone)=true) (h2:(l.filter fun x=>x.1== "internal/strconv.uint64pow10")=[("internal/strconv.uint64pow10",Lib.tabData .u64 Lib.pow10Tab)]):Qf w:=by
 rw[MakeChecks.laidMetH_plain _ _ _ h1] at h;have h4:=h.filter (fun x=>x.1== "internal/strconv.uint64pow10");rw[h2] at h4;exact Lib.tabIs_of_head (g:=0) (by kernel_rfl) (by kernel_rfl) Tryz.underlying181 Tryz.underlying162 (by kernel_rfl) (by kernel_rfl) h4
end Go.Proofs.YtgbnlmplkealdaaGreatDoor
