
/- InsA: Ins, InsG, StoreOwn, Same2. -/
import Derived.Laws.CopyRow
import Derived.Lib.AppendZerosOnto
import Derived.Lib.Overlaps
import Derived.Laws.Externs
import Derived.Test.YtgbnlmplkealdaaGreatDoorC5
set_option linter.all false
set_option maxHeartbeats 4000000
set_option maxRecDepth 100000
namespace Go.Proofs.YtgbnlmplkealdaaGreatDoor
open Go.RowKit
variable [Ghost]
theorem CB {P:Program} (w:World) (dT sT ty elem:TypeId) (sz n g o dLen dCap:Nat) (a:Addr) (sLen sCap:Nat) (cur:Array Value) (t:TypeId) (cs:List Value)
  (hu:P.underlying dT=some (.slice elem)) (hs:(P.info? elem).map (·.size)=some sz)
  (hg:w.heap[g]?=some (.cells cur t (0,0))) (hn:n=Nat.min sLen dLen) (hl:cs.length=n*sz)
  (hsrc:∀j v,cs[j]?=some v→w.cell? (a.add j)=some v) (hfit:o+cs.length≤cur.size) (h1:∀v∈cs,v.oneCell'=true):
  (Builtin.copy_ #[dT,sT] ty #[.slice (some ⟨g,o,none⟩) dLen dCap,.slice (some a) sLen sCap]).run P w=
   .ok (goInt n) (w.setRow g (cur.toList.take o++cs++cur.toList.drop (o+cs.length)).toArray):=by
 have hl2:=run_loadCells_list (P:=P) w a cs hsrc;rw[hl] at hl2;have hst:=run_storeCells_at P g o t cs 0 cur w hg (by simpa using hfit) h1;cases hq:P.info? elem with
 |none=>simp[hq] at hs
 |some i=>
  have hi:i.size=sz:=by simpa[hq] using hs
  simp[Builtin.copy_,run_underlying hu,Builtin.lenOf,Builtin.firstCells,sizeOf,typeInfo,hq,hi,←hn,hl2,hst]
theorem Ug {P:Program} {o:Oper} {a:Act} {w w':World} {K:Act→World→Prop} {Q:Exit→Act→World→Prop} (d s:Operand) (t t':TypeId)
  (ho:o.op=.call {callee:=.builtin .copy,args:=#[d,s],argTypes:=#[t,t']}) (v u v':Value) (hd:a.eval d=v) (hs:a.eval s=u)
  (hr:(Builtin.copy_ #[t,t'] o.type #[v,u]).run P w=.ok v' w') (h:K (a.put o.dst v') w'):o.wp P a w K Q:=by
 unfold Oper.wp execOp;simp only[ho,resolve,invoke,builtin,Sem.run_bind,Sem.run_pure,Result.andThen_ok,List.map_toArray,List.map_cons,List.map_nil,hd,hs,hr];exact h
theorem FB {P:Program} {ops:Array Oper} {o:Oper} {a:Act} {w w':World} {K:Act→World→Prop} {Q:Exit→Act→World→Prop} {E:Prop}
  (hg:o.guard=none) (d s:Operand) (t t':TypeId) (ho:o.op=.call {callee:=.builtin .copy,args:=#[d,s],argTypes:=#[t,t']})
  (v u v':Value) (hd:a.eval d=v) (hs:a.eval s=u) (hr:(Builtin.copy_ #[t,t'] o.type #[v,u]).run P w=.ok v' w') (hK:K (a.put o.dst v') w'):
  if Region.wanted o (yielded ops a.tmps)=true then Oper.wp P o a w K Q else E:=by
 have hw:Region.wanted o (yielded ops a.tmps)=true:=by simp[Region.wanted,hg]
 rw[if_pos hw];exact Ug d s t t' ho v u v' hd hs hr hK
theorem CF {P:Program} {ops:Array Oper} {IM:List Oper} {o:Oper} {a:Act} {w w':World} {Q:Exit→Act→World→Prop} (hgd:o.guard=none) (s x:Operand) (t t':TypeId)
  (ho:o.op=.call {callee:=.builtin .append,args:=#[s,x],argTypes:=#[t,t']}) (v u r:Value) (hs:a.eval s=v) (hx:a.eval x=u)
  (hr:(Builtin.append_ #[t,t'] o.type #[v,u]).run P w=.ok r w') (h:wpList P ops Q IM (a.put o.dst r) w'):wpList P ops Q (o::IM) a w:=by
 refine wpList_plain hgd fun K hK=>?_
 unfold Oper.wp execOp;simp only[ho,resolve,invoke,builtin,Sem.run_bind,Sem.run_pure,Result.andThen_ok,List.map_toArray,List.map_cons,List.map_nil,hs,hx,hr];exact hK _ _ h
def Lj (xs ys:List Value) (i:Nat):List Value:=xs.take (i*4)++ys++xs.drop (i*4)
theorem VJ {xs ys A:List Value} {i n:Nat} (hx:xs.length=n*4) (hA:A.take (n*4)=xs) (hy:ys.length=4) (hi:i<n) (hAl:(n+1)*4≤A.length) {C:List Value}
  (hC:C=A.take ((i+1)*4)++xs.drop (i*4)++A.drop ((i+1)*4+(xs.drop (i*4)).length)):
  (C.take (i*4)++ys++C.drop (i*4+ys.length)).take ((n+1)*4)=Lj xs ys i∧C.length=A.length∧(C.take (i*4)++ys++C.drop (i*4+ys.length)).length=A.length:=by
 have e1:(A.take ((i+1)*4)).length=(i+1)*4:=by rw[List.length_take];omega
 have e2:(xs.drop (i*4)).length=(n-i)*4:=by rw[List.length_drop,hx];omega
 have hCl:C.length=A.length:=by subst hC;rw[List.length_append,List.length_append,e1,e2,List.length_drop];omega
 have t1:C.take (i*4)=xs.take (i*4):=by
  subst hC;rw[List.append_assoc,List.take_append_of_le_length (by omega),List.take_take,←hA,List.take_take];congr 1;omega
 have d1:C.drop (i*4+ys.length)=xs.drop (i*4)++A.drop ((i+1)*4+(xs.drop (i*4)).length):=by
  subst hC;rw[hy,show i*4+4=(A.take ((i+1)*4)).length by omega,List.append_assoc,List.drop_left]
 refine⟨?_,hCl,?_⟩
 ·rw[t1,d1,←List.append_assoc]
  have hl:(xs.take (i*4)++ys++xs.drop (i*4)).length=(n+1)*4:=by
   rw[List.length_append,List.length_append,List.length_take,e2,hy,hx];omega
  rw[←hl,List.take_left];rfl
 ·rw[List.length_append,List.length_append,List.length_take,List.length_drop,hCl,hy];omega
theorem VI {xs ys A C:List Value} {i n:Nat} (hx:xs.length=n*4) (hA:A.take (i*4)=xs.take (i*4)) (hy:ys.length=4) (hi:i<n) (hAl:(n+1)*4≤A.length)
  (hC:C=A.take (i*4)++ys++A.drop (i*4+ys.length)):
  (C.take ((i+1)*4)++xs.drop (i*4)++C.drop ((i+1)*4+(xs.drop (i*4)).length)).take ((n+1)*4)=Lj xs ys i∧C.length=A.length∧(C.take ((i+1)*4)++xs.drop (i*4)++C.drop ((i+1)*4+(xs.drop (i*4)).length)).length=A.length:=by
 have e1:(A.take (i*4)).length=i*4:=by rw[List.length_take];omega
 have e2:(xs.drop (i*4)).length=(n-i)*4:=by rw[List.length_drop,hx];omega
 have hCl:C.length=A.length:=by subst hC;rw[List.length_append,List.length_append,e1,hy,List.length_drop];omega
 have t1:C.take ((i+1)*4)=xs.take (i*4)++ys:=by
  have:(i+1)*4=(A.take (i*4)++ys).length:=by rw[List.length_append,e1,hy];omega
  rw[this,hC,List.take_left,hA]
 refine⟨?_,hCl,?_⟩
 ·rw[t1]
  have hl:(xs.take (i*4)++ys++xs.drop (i*4)).length=(n+1)*4:=by
   rw[List.length_append,List.length_append,List.length_take,e2,hy,hx];omega
  rw[←hl,List.take_left];rfl
 ·rw[List.length_append,List.length_append,List.length_take,e2,List.length_drop,hCl];omega
def Kk (w:World) (B n:Nat) (v:Value) (zs:List Value) (e:Ending) (w':World):Prop:=
 ∃v',e=.returned v'∧w'.ownsRow B 96 4 v' (n+1) zs∧w.grownBy w' v.ownBlock∧(v'.ownBlock=v.ownBlock∨∃k,v'.ownBlock=some k∧w.heap.size≤k)
theorem Tp {w:World} {B n N:Nat} {v:Value} {xs ys:List Value} (hown:w.ownsRow B 96 4 v n xs) (hN:w.heap[N]?=some (.cells ys.toArray 96 (0,0)))
  (hy:ys.length=4) (h1:∀u∈ys,u.oneCell'=true) (hn:n≤1000) (hB:B≤w.heap.size):
  Calls Tryz.prog 142 #[v,.int .i64 n,.slice (some ⟨N,0,none⟩) 1 1] w (Kk w B n v (Lj xs ys n)):=by
 obtain⟨i0,hi0,hz0,hz1,hz2⟩:=info_parts Tryz.infoObj;have e:Lj xs ys n=xs++ys:=by
  unfold Lj;rw[List.take_of_length_le (by rw[hown.1];omega),List.drop_eq_nil_of_le (by rw[hown.1];omega),List.append_nil]
 rw[e];obtain⟨g,cap,x,hr,ho,hg,hor,hlt⟩:=run_append_lies (P:=Tryz.prog) w 25 25 B 96 i0 _ 4 56 Tryz.underlying25 hi0 hz0 hz1 hz2 rfl (by omega) v n xs hown ⟨N,0,none⟩ 1 1 ys (by omega)
  (fun j u hu=>by
   have:(⟨N,0,none⟩:Addr).add j=⟨N,j,none⟩:=by unfold Addr.add;split<;>simp_all
   rw[this];exact Aa hN (by simpa using hu)) h1 (by omega) (by unfold maxLen;omega) (by omega) hB _ rfl
 have hres:Kk w B n v (xs++ys) (.returned (.slice (some ⟨g,0,none⟩) (n+1) cap)) x:=by
  refine⟨_,rfl,ho,hg,?_⟩;rcases hor with h|h
  ·exact .inl h.symm
  ·exact .inr ⟨g,rfl,by omega⟩
 obtain⟨va,vc,rfl⟩:∃va vc,v=.slice va n vc:=by
  rcases hown.2 with⟨rfl,rfl⟩|⟨_,_,_,rfl,_⟩
  ·exact⟨_,_,rfl⟩
  ·exact⟨_,_,rfl⟩
 have hvc:n≤vc:=by
  rcases hown.2 with⟨e,rfl⟩|⟨_,_,_,e,_,_,h,_⟩
  ·omega
  ·cases e;exact h
 clear ho hg hor hlt hown;rcases Classical.em (vc=n) with rfl|hvn
 ·go_enter Tryz.func142, Tryz.ntmps142
  go_wp2_with (at_builtin;refine CF rfl _ _ 25 25 rfl _ _ _ rfl rfl hr ?_);go_ret;exact hres
 ·go_enter Tryz.func142, Tryz.ntmps142
  go_wp2_with (at_builtin;refine CF rfl _ _ 25 25 rfl _ _ _ rfl rfl hr ?_);go_ret;exact hres
theorem Zt (w:World):(sizeOf 96).run Tryz.prog w=.ok 4 w:=by
 obtain⟨i0,hi0,hz0,hz1,hz2⟩:=info_parts Tryz.infoObj;simp[sizeOf,typeInfo,hi0,hz1]
theorem Oi (w:World) {N g o:Nat} {ys cur:List Value} (hN:w.heap[N]?=some (.cells ys.toArray 96 (0,0))) (hg:w.heap[g]?=some (.cells cur.toArray 96 (0,0))) (hne:N≠g) (hc:cur.length≠0) (a b:Nat):
  (callFunc 157 #[.slice (some ⟨N,0,none⟩) 1 1,.slice (some ⟨g,o,none⟩) a b]).run Tryz.prog w=.ok (.value (.bool false)) w:=by
 rw[run_callFunc_extern Tryz.func157 (by kernel_rfl) (by kernel_rfl) (by kernel_rfl) (e:=Extern.SlicesOverlaps.overlaps #[25,25] #[4]) (by kernel_rfl),
  Lib.run_overlaps_apart w 25 4 96 Tryz.underlying25 4 Zt ⟨N,0,none⟩ ⟨g,o,none⟩ 1 1 a b hne 96 96 ys.length cur.length
   (by simp[World.shape?,hN]) (by simp[World.shape?,hg]) hc (by simp[World.frozen?,hN]) (by simp[World.frozen?,hN])]
 rfl
theorem Qw {w:World} {B n N i g cap:Nat} {xs ys:List Value} {cur:Array Value} (hB:B≤g) (hg:w.heap[g]?=some (.cells cur 96 (0,0))) (hcap:cap≤maxLen) (hcur:cur.size=cap*4)
  (hx:cur.toList.take (n*4)=xs) (hN:w.heap[N]?=some (.cells ys.toArray 96 (0,0))) (hne:N≠g)
  (hy:ys.length=4) (h1:∀u∈ys,u.oneCell'=true) (h1x:∀u∈xs,u.oneCell'=true) (hn:n≤1000) (hi:i<n) (hroom:n+1≤cap):
  Calls Tryz.prog 142 #[.slice (some ⟨g,0,none⟩) n cap,.int .i64 i,.slice (some ⟨N,0,none⟩) 1 1] w (Kk w B n (.slice (some ⟨g,0,none⟩) n cap) (Lj xs ys i)):=by
 have hsz:(Tryz.prog.info? 96).map (·.size)=some 4:=by
  obtain⟨i0,hi0,hz0,hz1,hz2⟩:=info_parts Tryz.infoObj;rw[hi0];simp[hz1]
 have hxl:xs.length=n*4:=by rw[←hx,List.length_take];simp[hcur];omega
 obtain⟨C,hC⟩:∃C:List Value,C=cur.toList.take ((i+1)*4)++xs.drop (i*4)++cur.toList.drop ((i+1)*4+(xs.drop (i*4)).length):=⟨_,rfl⟩;obtain⟨p1,p2,p3⟩:=VJ hxl hx hy hi (by simp[hcur];omega) hC;obtain⟨D,hD⟩:∃D:List Value,D=C.take (i*4)++ys++C.drop (i*4+ys.length):=⟨_,rfl⟩;rw[←hD] at p1 p3;have hov:=fun o a b=>Oi w (o:=o) hN (cur:=cur.toList) (by simpa using hg) hne (by simp[hcur];omega) a b
 have hdl:(xs.drop (i*4)).length=(n-i)*4:=by rw[List.length_drop,hxl];omega
 have hcp1:∀W:World,W.heap=w.heap→∀ty dc sc,(Builtin.copy_ #[25,25] ty #[.slice (some ⟨g,(i+1)*4,none⟩) (n-i) dc,.slice (some ⟨g,i*4,none⟩) (n+1-i) sc]).run Tryz.prog W=.ok (goInt ((n-i:Nat):Int)) (W.setRow g C.toArray):=fun W hW ty dc sc=>by
  rw[hC];exact CB W _ _ ty 96 4 (n-i) g ((i+1)*4) _ _ ⟨g,i*4,none⟩ _ _ cur 96 (xs.drop (i*4)) Tryz.underlying25 hsz (by rw[hW];exact hg) (by simp only[Nat.min_def];split<;>omega) hdl
   (fun j u hu=>by
    have ha:(⟨g,i*4,none⟩:Addr).add j=⟨g,i*4+j,none⟩:=by unfold Addr.add;split<;>simp_all
    rw[ha];refine Aa (by rw[hW];exact hg) ?_;have hj:i*4+j<n*4:=by
     rcases Nat.lt_or_ge (i*4+j) (n*4) with h|h
     ·exact h
     ·rw[List.getElem?_eq_none (by omega)] at hu;cases hu
    rw[List.getElem?_drop,←hx,List.getElem?_take,if_pos hj] at hu;simpa using hu) (by rw[hdl,hcur];omega) (fun u hu=>h1x u (List.mem_of_mem_drop hu))
 have hcp2:∀W:World,W.heap=(w.setRow g C.toArray).heap→∀ty dc,(Builtin.copy_ #[25,25] ty #[.slice (some ⟨g,i*4,none⟩) (n+1-i) dc,.slice (some ⟨N,0,none⟩) 1 1]).run Tryz.prog W=.ok (goInt ((1:Nat):Int)) (W.setRow g D.toArray):=fun W hW ty dc=>by
  rw[hD];exact CB W _ _ ty 96 4 1 g (i*4) _ _ ⟨N,0,none⟩ _ _ C.toArray 96 ys Tryz.underlying25 hsz (by rw[hW];exact setRow_heap w g cur _ _ _ hg) (by simp only[Nat.min_def];split<;>omega) (by omega)
   (fun j u hu=>by
    have ha:(⟨N,0,none⟩:Addr).add j=⟨N,j,none⟩:=by unfold Addr.add;split<;>simp_all
    rw[ha];exact Aa (by rw[hW,setRow_other w g N _ hne];exact hN) (by simpa using hu)) (by simp[p2,hcur];omega) h1
 have hres:∀W:World,W.heap=((w.setRow g C.toArray).setRow g D.toArray).heap→W.os=w.os→W.tape=w.tape→W.output=w.output→Kk w B n (.slice (some ⟨g,0,none⟩) n cap) (Lj xs ys i) (.returned (.slice (some ⟨g,0,none⟩) (n+1) cap)) W:=fun W hW q1 q2 q3=>by
  have hgl:(Lj xs ys i).length=(n+1)*4:=by rw[←p1,List.length_take,p3];simp[hcur];omega
  refine⟨_,rfl,⟨hgl,.inr ⟨g,cap,D.toArray,rfl,hB,?_,hroom,hcap,by simp[p3,hcur],p1⟩⟩,⟨q1,q2,q3,by rw[hW];simp,fun k hk hr=>?_⟩,.inl rfl⟩
  ·rw[hW];exact setRow_heap _ g C.toArray _ _ _ (setRow_heap w g cur _ _ _ hg)
  ·have hk:k≠g:=fun e=>hr (by subst e;rfl)
   rw[hW,setRow_other _ _ _ _ hk,setRow_other _ _ _ _ hk]
 clear hC hD p1 p2 p3 hdl hx hxl hsz hg hN hcur h1 h1x hB;have hz2:¬((i:Int)=(n:Int)):=by omega
 have hw1:IntKind.i64.wrap ((i:Int)+1)=(i:Int)+1:=by rw[IntKind.wrap_i64];omega
 have hw2:IntKind.i64.wrap ((n:Int)+1)=(n:Int)+1:=by rw[IntKind.wrap_i64];omega
 have hb1:(0:Int)≤(i:Int)+1:=by omega
 have hb0:¬((i:Int)+1<0):=by omega
 have htn:((i:Int)+1).toNat=i+1:=by omega
 have hb2:¬(cap=i+1):=by omega
 have hb4:¬(cap=i):=by omega
 have hb5:(n:Int)+1≤(cap:Int):=by omega
 have hb6:(i:Int)≤(n:Int):=by omega
 have hb7:(i:Int)+1≤(n:Int)+1:=by omega
 have hb8:(i:Int)≤(n:Int)+1:=by omega
 have hm:cap≤9223372036854775807:=by unfold maxLen at hcap;omega
 clear hcap
 go_enter Tryz.func142, Tryz.ntmps142
 go_wp2_with (simp only[hov]);go_region_law (refine FB rfl _ _ 25 25 rfl (.slice (some ⟨g,(i+1)*4,none⟩) (n-i) (cap-(i+1))) (.slice (some ⟨g,i*4,none⟩) (n+1-i) (cap-i)) _ (by simp[Act.eval,Act.put]) (by simp[Act.eval,Act.put]) (hcp1 _ (by rfl) 3 (cap-(i+1)) (cap-i)) ?_)
 have hc2:=hcp2 (w.drew.setRow g C.toArray) (by rfl);go_wp2_with fail
 try rw[hc2]
 go_wp2;go_ret;exact hres _ rfl rfl rfl rfl
theorem RM {w:World} {B n N i g cap:Nat} {xs ys:List Value} {cur:Array Value} (hB:B≤w.heap.size) (hg:w.heap[g]?=some (.cells cur 96 (0,0))) (hcap:n≤cap) (hcur:cur.size=cap*4)
  (hx:cur.toList.take (n*4)=xs) (hN:w.heap[N]?=some (.cells ys.toArray 96 (0,0)))
  (hy:ys.length=4) (h1:∀u∈ys,u.oneCell'=true) (h1x:∀u∈xs,u.oneCell'=true) (hn:n≤1000) (hi:i<n) (hroom:cap<n+1):
  Calls Tryz.prog 142 #[.slice (some ⟨g,0,none⟩) n cap,.int .i64 i,.slice (some ⟨N,0,none⟩) 1 1] w (Kk w B n (.slice (some ⟨g,0,none⟩) n cap) (Lj xs ys i)):=by
 obtain⟨i0,hi0,hz0,hz1,hz2⟩:=info_parts Tryz.infoObj;have hsz:(Tryz.prog.info? 96).map (·.size)=some 4:=by rw[hi0];simp[hz1]
 obtain rfl:cap=n:=by omega
 have hxl:xs.length=cap*4:=by rw[←hx,List.length_take];simp[hcur]
 have hxg:∀j u,xs[j]?=some u→cur[j]?=some u:=fun j u hu=>by
  rw[←hx,List.getElem?_take] at hu;split at hu
  ·simpa using hu
  ·cases hu
 obtain⟨z4,hz4⟩:∃z4:Value,z4=.agg #[.int .i64 0,.int .i64 0,.slice none 0 0,.string ⟨#[]⟩]:=⟨_,rfl⟩;rw[←hz4] at hz0;have hold:(Builtin.firstCells i0.size i (.slice (some ⟨g,0,none⟩) i cap)).run Tryz.prog w.drew=.ok (xs.take (i*4)).toArray w.drew:=by
  rw[hz1];exact run_firstCells_some w.drew 4 i ⟨g,0,none⟩ i cap (xs.take (i*4)) (by rw[List.length_take];omega) (fun j u hu=>by
   have ha:(⟨g,0,none⟩:Addr).add j=⟨g,j,none⟩:=by unfold Addr.add;split<;>simp_all
   rw[ha];refine Aa (w:=w.drew) hg ?_;rw[List.getElem?_take] at hu;split at hu
   ·exact hxg j u hu
   ·cases hu)
 obtain⟨G,hG⟩:∃G,G=grownCap w (cap+1) cap 96:=⟨_,rfl⟩;obtain⟨ROW,hROW⟩:∃ROW:List Value,ROW=xs.take (i*4)++(Builtin.zeroCells z4.cells (cap+1-i)).toList++(Builtin.zeroCells z4.cells (G-(cap+1))).toList:=⟨_,rfl⟩;have hGn:cap+1≤G:=by rw[hG];exact grownCap_ge w _ _ _
 have hGm:G≤maxLen:=by rw[hG];exact grownCap_le_maxLen w (cap+1) cap _ (by unfold maxLen;omega)
 have hRl:ROW.length=G*4:=by
  rw[hROW,hz4];simp[Builtin.zeroCells,Value.cells,List.length_take,hxl];omega
 have happ:∀ty,(Builtin.append_ #[25,3] ty #[.slice (some ⟨g,0,none⟩) i cap,.int .i64 ((cap:Int)+1-(i:Int))]).run Tryz.prog w=
   .ok (.slice (some ⟨w.heap.size,0,none⟩) (cap+1) G) (w.drew.alloc (.cells ROW.toArray 96)):=fun ty=>by
  have h:=Lib.run_append_grow_zeros w 25 3 ty 96 i0 z4 .i64 .i64 Tryz.underlying25 Tryz.underlying3 hi0 hz0 (some ⟨g,0,none⟩) i cap (xs.take (i*4)) hold (cap+1-i) (by omega) (by omega) (by omega) (by omega) (by rw[hz2];omega)
   (by rw[hz2,show i+(cap+1-i)=cap+1 by omega];exact growslice_fits hroom (by omega))
  rw[show i+(cap+1-i)=cap+1 by omega,←hG] at h;have hA:(xs.take (i*4)).toArray++Builtin.zeroCells z4.cells (cap+1-i)++Builtin.zeroCells z4.cells (G-(cap+1))=ROW.toArray:=by
   rw[hROW];apply Array.ext';simp
  rw[show(cap:Int)+1-(i:Int)=((cap+1-i:Nat):Int) by omega,h,hA]
 obtain⟨w1,hw1⟩:∃w1,w1=w.drew.alloc (.cells ROW.toArray 96):=⟨_,rfl⟩;rw[←hw1] at happ;have hnew:w1.heap[w.heap.size]?=some (.cells ROW.toArray 96 (0,0)):=by rw[hw1];exact heap_alloc_new w.drew _
 have hsame:∀k,k<w.heap.size→w1.heap[k]?=w.heap[k]?:=fun k hk=>by rw[hw1];exact heap_alloc_old w.drew _ hk
 have hNw:=lt_of_block hN;have hgw:=lt_of_block hg;obtain⟨C,hC⟩:∃C:List Value,C=ROW.take (i*4)++ys++ROW.drop (i*4+ys.length):=⟨_,rfl⟩;have hRt:ROW.take (i*4)=xs.take (i*4):=by
  rw[hROW,List.append_assoc,List.take_append_of_le_length (by rw[List.length_take];omega),List.take_take,Nat.min_self]
 obtain⟨p1,p2,p3⟩:=VI hxl hRt hy hi (by omega) hC;obtain⟨D,hD⟩:∃D:List Value,D=C.take ((i+1)*4)++xs.drop (i*4)++C.drop ((i+1)*4+(xs.drop (i*4)).length):=⟨_,rfl⟩;rw[←hD] at p1 p3;have hdl:(xs.drop (i*4)).length=(cap-i)*4:=by rw[List.length_drop,hxl];omega
 have hcp1:∀W:World,W.heap=w1.heap→∀ty dc,(Builtin.copy_ #[25,25] ty #[.slice (some ⟨w.heap.size,i*4,none⟩) (cap+1-i) dc,.slice (some ⟨N,0,none⟩) 1 1]).run Tryz.prog W=.ok (goInt ((1:Nat):Int)) (W.setRow w.heap.size C.toArray):=fun W hW ty dc=>by
  rw[hC];exact CB W _ _ ty 96 4 1 w.heap.size (i*4) _ _ ⟨N,0,none⟩ _ _ ROW.toArray 96 ys Tryz.underlying25 hsz (by rw[hW];exact hnew) (by simp only[Nat.min_def];split<;>omega) (by omega)
   (fun j u hu=>by
    have ha:(⟨N,0,none⟩:Addr).add j=⟨N,j,none⟩:=by unfold Addr.add;split<;>simp_all
    rw[ha];exact Aa (by rw[hW,hsame N hNw];exact hN) (by simpa using hu)) (by simp[hRl];omega) h1
 have hcp2:∀W:World,W.heap=(w1.setRow w.heap.size C.toArray).heap→∀ty dc sc,(Builtin.copy_ #[25,25] ty #[.slice (some ⟨w.heap.size,(i+1)*4,none⟩) (cap-i) dc,.slice (some ⟨g,i*4,none⟩) (cap-i) sc]).run Tryz.prog W=.ok (goInt ((cap-i:Nat):Int)) (W.setRow w.heap.size D.toArray):=fun W hW ty dc sc=>by
  rw[hD];exact CB W _ _ ty 96 4 (cap-i) w.heap.size ((i+1)*4) _ _ ⟨g,i*4,none⟩ _ _ C.toArray 96 (xs.drop (i*4)) Tryz.underlying25 hsz (by rw[hW];exact setRow_heap w1 _ _ _ _ _ hnew) (by simp) hdl
   (fun j u hu=>by
    have ha:(⟨g,i*4,none⟩:Addr).add j=⟨g,i*4+j,none⟩:=by unfold Addr.add;split<;>simp_all
    rw[ha];refine Aa (by rw[hW,setRow_other _ _ _ _ (by omega),hsame g hgw];exact hg) ?_;rw[List.getElem?_drop] at hu;exact hxg _ _ hu) (by rw[hdl];simp[p2,hRl];omega) (fun u hu=>h1x u (List.mem_of_mem_drop hu))
 have hres:∀W:World,W.heap=((w1.setRow w.heap.size C.toArray).setRow w.heap.size D.toArray).heap→W.os=w.os→W.tape=w.tape→W.output=w.output→Kk w B cap (.slice (some ⟨g,0,none⟩) cap cap) (Lj xs ys i) (.returned (.slice (some ⟨w.heap.size,0,none⟩) (cap+1) G)) W:=fun W hW q1 q2 q3=>by
  have hgl:(Lj xs ys i).length=(cap+1)*4:=by rw[←p1,List.length_take,p3,hRl];omega
  refine⟨_,rfl,⟨hgl,.inr ⟨w.heap.size,G,D.toArray,rfl,hB,?_,hGn,hGm,by simp[p3,hRl],p1⟩⟩,⟨q1,q2,q3,by rw[hW];simp[hw1],fun k hk hr=>?_⟩,.inr ⟨_,rfl,Nat.le_refl _⟩⟩
  ·rw[hW];exact setRow_heap _ _ _ _ _ _ (setRow_heap w1 _ _ _ _ _ hnew)
  ·rw[hW,setRow_other _ _ _ _ (by omega),setRow_other _ _ _ _ (by omega),hsame k hk]
 have hG63:G≤9223372036854775807:=by unfold maxLen at hGm;omega
 clear hC hD p1 p2 p3 hdl hx hxl hsz hN hcur h1 h1x hB hRt hnew hsame hold hz0 hz1 hz2 hi0 hROW hG hRl hxg hz4 hNw hgw hGm hg;have hz2:¬((i:Int)=(cap:Int)):=by omega
 have hw2:IntKind.i64.wrap ((i:Int)+1)=(i:Int)+1:=by rw[IntKind.wrap_i64];omega
 have hw3:IntKind.i64.wrap ((cap:Int)+1)=(cap:Int)+1:=by rw[IntKind.wrap_i64];omega
 have hw4:IntKind.i64.wrap ((cap:Int)+1-(i:Int))=(cap:Int)+1-(i:Int):=by rw[IntKind.wrap_i64];omega
 have hb1:(0:Int)≤(i:Int)+1:=by omega
 have hb0:¬((i:Int)+1<0):=by omega
 have htn:((i:Int)+1).toNat=i+1:=by omega
 have hb2:¬(G=i+1):=by omega
 have hb3:¬(G=i):=by omega
 have hb4:¬(cap=i):=by omega
 have hb6:(i:Int)≤(cap:Int):=by omega
 have hb7:(i:Int)+1≤(cap:Int)+1:=by omega
 have hb8:(i:Int)≤(cap:Int)+1:=by omega
 subst hw1
 go_enter Tryz.func142, Tryz.ntmps142
 go_wp2_with (at_builtin;refine CF rfl _ _ 25 3 rfl _ _ _ rfl rfl (happ _) ?_);have hc1:=hcp1 ((w.alloc (.cells ROW.toArray 96)).drew) (by rfl);go_wp2_with fail
 try rw[hc1]
 go_wp2;go_region_law (refine FB rfl _ _ 25 25 rfl (.slice (some ⟨w.heap.size,(i+1)*4,none⟩) (cap-i) (G-(i+1))) (.slice (some ⟨g,i*4,none⟩) (cap-i) (cap-i)) _ (by simp[Act.eval,Act.put]) (by simp[Act.eval,Act.put]) (hcp2 _ (by rfl) 3 (G-(i+1)) (cap-i)) ?_)
 go_wp2;go_ret;exact hres _ rfl rfl rfl rfl
variable [Ghost]
def Ku (l:List Obj) (i:Nat) (o:Obj):List Obj:=l.take i++o::l.drop i
theorem CK {l:List Obj} {i:Nat} {o:Obj} (h:i≤l.length):(Ku l i o).length=l.length+1:=by
 unfold Ku;rw[List.length_append,List.length_cons,List.length_take,List.length_drop];omega
theorem Im {l:List Obj} {i j:Nat} {o:Obj} (h:i≤l.length) (hj:j<i):obj (Ku l i o) j=obj l j:=by
 unfold Ku obj at_;simp only[List.getD_eq_getElem?_getD];rw[List.getElem?_append_left (by rw[List.length_take];omega),List.getElem?_take,if_pos hj]
theorem Jg {l:List Obj} {i:Nat} {o:Obj} (h:i≤l.length):obj (Ku l i o) i=o:=by
 unfold Ku obj at_;simp only[List.getD_eq_getElem?_getD];rw[List.getElem?_append_right (by rw[List.length_take];omega),List.length_take,show i-min i l.length=0 by omega];rfl
theorem Il {l:List Obj} {i j:Nat} {o:Obj} (h:i≤l.length) (hj:i≤j):obj (Ku l i o) (j+1)=obj l j:=by
 unfold Ku obj at_;simp only[List.getD_eq_getElem?_getD];rw[List.getElem?_append_right (by rw[List.length_take];omega),List.length_take,show j+1-min i l.length=(j-i)+1 by omega,List.getElem?_cons_succ,List.getElem?_drop,show i+(j-i)=j by omega]
theorem Df (f:Nat→List Value) (a b:Nat):AN f (a+b)=AN f a++AN (fun j=>f (a+j)) b:=by
 induction b with
 |zero=>simp[AN]
 |succ b ih=>rw[←Nat.add_assoc,AN,ih,AN,List.append_assoc]
theorem KS (f:Nat→List Value) (b:Nat):AN f (1+b)=f 0++AN (fun j=>f (1+j)) b:=by rw[Df];simp[AN]
theorem VH {f g:Nat→List Value} {n i:Nat} {ys:List Value} (hf:∀j,j<n→(f j).length=4) (hi:i≤n) (h1:∀j,j<i→g j=f j) (h2:g i=ys) (h3:∀j,i≤j→j<n→g (j+1)=f j):
  Lj (AN f n) ys i=AN g (n+1):=by
 obtain⟨k,rfl⟩:∃k,n=i+k:=⟨n-i,by omega⟩;have hl:(AN f i).length=i*4:=Bc fun j hj=>hf j (by omega)
 unfold Lj;rw[Df f i k,←hl,List.take_left,List.drop_left,show i+k+1=i+(1+k) by omega,Df g i (1+k),KS,List.append_assoc];congr 1
 ·exact Bi fun j hj=>(h1 j hj).symm
 ·simp only[Nat.add_zero]
  rw[h2];congr 1
  refine Bi fun j hj=>?_
  rw[show i+(1+j)=(i+j)+1 by omega,h3 (i+j) (by omega) (by omega)]
theorem Jq {f:Nat→List Value} {n:Nat} (h:∀j,j<n→∀u∈f j,u.oneCell'=true):∀u∈AN f n,u.oneCell'=true:=by
 induction n with
 |zero=>intro u hu;simp[AN] at hu
 |succ n ih=>
  intro u hu;rw[AN] at hu;rcases List.mem_append.1 hu with hu|hu
  ·exact ih (fun j hj=>h j (by omega)) u hu
  ·exact h n (by omega) u hu
theorem JF {S:Nat→Prop} {w:World} {o:Obj} {lv:Value} (h:Bu S w o lv):∀u∈AG o lv,u.oneCell'=true:=by
 obtain⟨q,rfl⟩:=h.1.shape;intro u hu;simp only[AG,List.mem_cons,List.not_mem_nil,or_false] at hu;rcases hu with rfl|rfl|rfl|rfl<;>rfl
theorem Tq {w:World} {B n N i:Nat} {v:Value} {xs ys:List Value} (hown:w.ownsRow B 96 4 v n xs) (hN:w.heap[N]?=some (.cells ys.toArray 96 (0,0))) (hne:v.ownBlock≠some N)
  (hy:ys.length=4) (h1:∀u∈ys,u.oneCell'=true) (h1x:∀u∈xs,u.oneCell'=true) (hn:n≤1000) (hB:B≤w.heap.size) (hi:i≤n):
  Calls Tryz.prog 142 #[v,.int .i64 i,.slice (some ⟨N,0,none⟩) 1 1] w (Kk w B n v (Lj xs ys i)):=by
 by_cases he:i=n
 ·subst he;exact Tp hown hN hy h1 hn hB
 ·obtain⟨hl,⟨rfl,h0⟩|⟨g,cap,cur,rfl,hBg,hg,hnc,hcm,hcs,hxs⟩⟩:=hown
  ·omega
  ·by_cases hr:n+1≤cap
   ·exact Qw hBg hg hcm hcs hxs hN (fun e=>hne (by subst e;rfl)) hy h1 h1x hn (by omega) hr
   ·exact RM hB hg hnc hcs hxs hN hy h1 h1x hn (by omega) (by omega)
def Dc (A:Nat→Prop) (B:Nat) (w:World) (v:Value) (l:List Obj):Prop:=∃S:Nat→Prop,Dd S B w v l∧∀b,S b→A b
theorem Dc.gath {A:Nat→Prop} {B:Nat} {w:World} {v:Value} {l:List Obj} (h:Dc A B w v l):GV B w v l:=h.choose_spec.1.gath
theorem Dc.below {A:Nat→Prop} {B:Nat} {w w':World} {v:Value} {l:List Obj} (h:Dc A B w v l) (hb:Below w.heap.size w w'):Dc A B w' v l:=let⟨S,h1,h2⟩:=h;⟨S,h1.below hb,h2⟩
theorem Dc.shape {A:Nat→Prop} {B:Nat} {w:World} {v:Value} {l:List Obj} (h:Dc A B w v l):∃a c,v=.slice a l.length c:=h.gath.shape
theorem Dc.block {A:Nat→Prop} {B:Nat} {w:World} {v:Value} {l:List Obj} (h:Dc A B w v l) {g:Nat} (hg:v.ownBlock=some g):B≤g∧g<w.heap.size:=h.gath.block hg
theorem Dc.nil (A:Nat→Prop) (B:Nat) (w:World):Dc A B w (.slice none 0 0) []:=
 ⟨fun _=>False,⟨fun _=>.nilFunc,fun _ h=>h.elim,World.ownsRow_nil _ _ _ _,fun i hi=>by simp at hi⟩,fun _ h=>h.elim⟩
theorem Dc.store {A:Nat→Prop} {B:Nat} {w:World} {v:Value} {l:List Obj} (h:Dc A B w v l) (hl:l.length*56≤140737488351232):Ai (fun b=>A b∨B≤b) w v l:=by
 obtain⟨S,⟨lvs,h1,h2,h3⟩,h4⟩:=h;refine⟨lvs,Iu h2 (fun g hg=>.inr (h2.lt g hg).1) hl (fun i hi j u hu=>?_),fun i hi=>(h3 i hi).weaken fun b hb=>.inl (h4 b hb)⟩;exact CJ (cs:=fun i=>AG (obj l i) (lvs i)) (fun _ _=>rfl) i hi j u hu
def GF (A:Nat→Prop) (w w':World) (e:Ending) (l:List Obj) (c:Int):Prop:=∃v,e=.returned (.tuple #[v,.int .i64 c])∧Ai (fun b=>A b∨w.heap.size≤b) w' v l∧Below w.heap.size w w'
theorem GF.e {A:Nat→Prop} {w w':World} {e:Ending} {l:List Obj} {c:Int} (h:GF A w w' e l c):LD w w' e l c:=let⟨v,h1,h2,h3⟩:=h;⟨v,h1,h2.weaken fun _ _=>trivial,h3⟩
theorem Dd.upd {S T:Nat→Prop} {B:Nat} {w w':World} {v:Value} {l:List Obj} (h:Dd S B w v l) (hu:AK T w w') (hS:∀b,S b→¬T b) (hv:∀g,v.ownBlock=some g→¬T g):Dd S B w' v l:=by
 obtain⟨lvs,h1,h2,h3⟩:=h;refine⟨lvs,fun b hb=>⟨Nat.lt_of_lt_of_le (h1 b hb).1 hu.size,(h1 b hb).2⟩,⟨h2.1,?_⟩,fun i hi=>(h3 i hi).upd hu hS⟩;rcases h2.2 with h|⟨g,cap,cur,rfl,hg,hh,r⟩
 ·exact .inl h
 ·exact .inr ⟨g,cap,cur,rfl,hg,hu.blk hh (hv g rfl),r⟩
theorem Gc {B i:Nat} {w:World} {v:Value} {l:List Obj} {o:Obj} {lv:Value} {S S2:Nat→Prop} (hG:Dd S B w v l) (ho:Bu S2 w o lv) (h2:∀b,S2 b→b<w.heap.size∧v.ownBlock≠some b)
  (hl:l.length≤1000) (hB:B≤w.heap.size) (hi:i≤l.length) {N:Nat} (hN:N=w.heap.size):
  Calls Tryz.prog 142 #[v,.int .i64 i,.slice (some ⟨N,0,none⟩) 1 1] (w.alloc (.cells #[.int .i64 o.id,.int .i64 o.kind,lv,.string o.text] 96))
   fun e w'=>∃v',e=.returned v'∧Dd (fun b=>S b∨S2 b) B w' v' (Ku l i o)∧AK (fun b=>v.ownBlock=some b) w w'∧(v'.ownBlock=v.ownBlock∨∃k,v'.ownBlock=some k∧w.heap.size≤k):=by
 subst hN;obtain⟨lvs,hS,hown,hO⟩:=hG;have hv:∀g,v.ownBlock=some g→g<w.heap.size:=fun g hg=>(hown.lt g hg).2
 refine(Tq (xs:=AN (fun j=>AG (obj l j) (lvs j)) l.length) (ys:=AG o lv) (i:=i) (hown.alloc _) (heap_alloc_new w _) (fun e=>Nat.lt_irrefl _ (hv _ e)) rfl (JF ho) (Jq fun j hj=>JF (hO j hj)) hl (by simp;omega) hi).mono ?_;rintro e w' ⟨v',rfl,hown',hgrow,hat⟩;have hu:AK (fun b=>v.ownBlock=some b) w w':=AK.grown ((AK.refl _ _).alloc _) hgrow (fun k hk _=>hk);have hat':v'.ownBlock=v.ownBlock∨∃k,v'.ownBlock=some k∧w.heap.size≤k:=by
  rcases hat with h|⟨k,h,hk⟩
  ·exact .inl h
  ·exact .inr ⟨k,h,by simp at hk;omega⟩
 refine⟨v',rfl,⟨fun j=>if j<i then lvs j else if j=i then lv else lvs (j-1),fun b hb=>?_,?_,fun j hj=>?_⟩,hu,hat'⟩
 ·have hb':b<w.heap.size∧v.ownBlock≠some b:=by rcases hb with hb|hb;exact hS b hb;exact h2 b hb
  refine⟨Nat.lt_of_lt_of_le hb'.1 hu.size,?_⟩;rcases hat' with h|⟨k,h,hk⟩
  ·rw[h];exact hb'.2
  ·rw[h];intro e;cases e;omega
 ·rw[CK hi]
  have e1:=VH (f:=fun j=>AG (obj l j) (lvs j)) (g:=fun j=>AG (obj (Ku l i o) j) (if j<i then lvs j else if j=i then lv else lvs (j-1))) (n:=l.length) (i:=i) (ys:=AG o lv)
   (fun _ _=>rfl) hi (fun j hj=>by simp only[Im hi hj,if_pos hj]) (by simp only[Jg hi,Nat.lt_irrefl,if_false,if_true]) (fun j hj hjn=>by
    simp only[Il hi hj,show¬j+1<i by omega,show¬j+1=i by omega,if_false,Nat.add_sub_cancel])
  rw[←e1];exact hown'
 ·rw[CK hi] at hj
  by_cases h1:j<i
  ·simp only[Im hi h1,if_pos h1]
   exact((hO j (by omega)).upd hu (fun b hb h=>(hS b hb).2 h)).weaken fun _ h=>.inl h
  ·by_cases h3:j=i
   ·subst h3
    simp only[Jg hi,Nat.lt_irrefl,if_false,if_true];exact(ho.upd hu (fun b hb h=>(h2 b hb).2 h)).weaken fun _ h=>.inr h
   ·obtain⟨k,rfl⟩:∃k,j=k+1:=⟨j-1,by omega⟩
    simp only[Il hi (show i≤k by omega),if_neg h1,if_neg h3,Nat.add_sub_cancel];exact((hO k (by omega)).upd hu (fun b hb h=>(hS b hb).2 h)).weaken fun _ h=>.inl h
variable [Ghost]
def YB (w w':World) (e:Ending) (l:List Obj):Prop:=∃v,e=.returned v∧El w.heap.size w' v l∧Below w.heap.size w w'
def IN (l:List Obj) (k:Nat):List Obj:=l.take k
theorem PW {l:List Obj} {k:Nat} (h:k<l.length):IN l (k+1)=IN l k++[obj l k]:=by
 unfold IN;rw[List.take_succ_eq_append_getElem h,Dm h]
theorem Yq (l:List Obj):IN l l.length=l:=List.take_length
theorem MK (l:List Obj) (k:Nat):(IN l k).length≤k:=by unfold IN;rw[List.length_take];omega
theorem Iz (l:List Obj) (lv:Value) (S:Nat→Prop) (w:World) (h:Ai S w lv l):
  Calls Tryz.prog 90 #[lv] w fun e w'=>YB w w' e l:=by
 have h':=h;obtain⟨a,n,cap,la,ln,lc,HN,rfl,h1,h2,h3,h4,h5⟩:=h.open;have HR0:=zh (show IN l n=l by rw[HN.out.1];exact Yq l);clear h4 h5 h;obtain⟨R,hR,hR1,hRall⟩:=Av w;have hRb:=hR.below;have hRn:=hR.next
 go_enter Tryz.func90, Tryz.ntmps90
 go_wp2_with fail;go_loopw [3,8] (fun v i wr=>∃k:Nat,k≤n∧i=.int .i64 k∧Hid (El w.heap.size wr v (IN l k))∧In R wr) (fun _ i _=>n-(intOf i).toNat)
 case atStart=>exact⟨0,by omega,rfl,⟨fun _=>False,⟨fun _=>.nilFunc,fun _ h=>h.elim,World.ownsRow_nil _ _ _ _,fun i hi=>by simp[IN] at hi⟩,fun _ h=>h.elim⟩,hR1⟩
 obtain⟨k,hk,rfl,HG,hRw⟩:=hrel;clear hR1;by_cases hlt:k<n
 ·obtain⟨a5,n5,c5,la5,ln5,lc5,HN5,e5,_,_,_,h45,h55⟩:=h'.open
  cases e5;obtain⟨b,off,rfl,hb,k0,k1,k2,k3⟩:=h45 (by omega);have x0:=k0 k wr hlt (hRb _ hRw);have x1:=k1 k wr hlt (hRb _ hRw);have x2:=k2 k wr hlt (hRb _ hRw);have x3:=k3 k wr hlt (hRb _ hRw);have Ho:=zh (h55 k hlt);clear h45 h55 k0 k1 k2 k3 HN5;obtain⟨Q,hQ,hQ1,y0,y1,y2,y3⟩:=Ev wr (.int .i64 (obj l k).id) (.int .i64 (obj l k).kind) (.slice (la5 k) (ln5 k) (lc5 k)) (.string (obj l k).text) 96;have hQR:∀x,In Q x→In R x:=fun x hx=>hRn _ _ hRw (hQ.below x hx)
  have hi1:=zk k;have hi2:(k:Int)<(n:Int):=by omega
  obtain⟨va,vc,hvs⟩:=HG.out.gath.shape;subst hvs;have y00:=y0 _ hQ1;have y10:=y1 _ hQ1;have y20:=y2 _ hQ1;have y30:=y3 _ hQ1;clear y0 y1 y2 y3;go_wp2_with fail;refine(QF (obj l k) _ S _ (Ho.out.below (hRb _ (hQR _ hQ1)))).mono ?_;rintro e w4 ⟨lv4,rfl,ho4,hb4⟩;obtain⟨⟨p4,c4⟩,rfl⟩:=ho4.1.shape;have hR4:=hRn _ _ (hQR _ hQ1) hb4;have HGq:=zh (HG.out.below (hQ.below _ hQ1));have HG4:=zh (HGq.out.below hb4);have Hsep:=zh (show∀b,((wr.alloc (.cells #[.int .i64 (obj l k).id,.int .i64 (obj l k).kind,.slice (la5 k) (ln5 k) (lc5 k),.string (obj l k).text] 96)).heap.size≤b)∧b<w4.heap.size→b<w4.heap.size∧(Value.slice va (IN l k).length vc).ownBlock≠some b from
   fun b hb=>⟨hb.2,fun e=>by have:=(HGq.out.gath.block e).2;omega⟩)
  have Ho4:=zh ho4.lt;have hpl:=MK l k;clear ho4 hb4 x0 x1 x2 x3 y00 y10 y20 y30;obtain⟨S4,HGS,HS4⟩:=HG4.out;have hge:=hQ.below _ hQ1;have hge2:=hge.size;have hge3:=(hRb _ hRw).size;have HS4:=zh HS4;have HGS:=zh HGS;clear hge;go_wp2_with (at_builtin;refine Dq rfl _ _ rfl HGS.out Ho4.out rfl Hsep.out (by omega) (hRb _ hR4).size rfl rfl (by first|rfl|simp) ?_);intro v' w5 hG5 hu5;have hR5:In R w5:=hRall _ ((hRb _ hR4).trans (hu5.below (B:=w.heap.size) (hRb _ hR4).size (fun b hb=>(HG4.out.gath.block hb).1)));have HG5:=zh (show El w.heap.size w5 v' (IN l (k+1)) by rw[PW (by rw[←HN.out.1];exact hlt)];exact⟨_,hG5,fun b hb=>by rcases hb with hb|hb;exact HS4.out b hb;have hb1:=hb.1;omega⟩);obtain⟨va',vc',hvs'⟩:=hG5.gath.shape;subst hvs';clear hG5 hu5;go_wp2_with fail;go_roundw
  case rel=>exact⟨k+1,by omega,by go_num,HG5,hR5⟩
  case measure=>simp[intOf];omega
 ·obtain rfl:k=n:=by omega
  obtain⟨va,vc,hvs⟩:=HG.out.gath.shape;subst hvs;go_wp2_with fail;go_ret;exact⟨_,rfl,El.list HR0.out HG.out,hRb _ hRw⟩
variable [Ghost]
theorem Ve (xs ys:List Int) (v v':Value) (S S':Nat→Prop) (w:World) (h1:Bb S w v xs) (h2:Bb S' w v' ys):
  Calls Tryz.prog 141 #[v,v'] w fun e w'=>e=.returned (.bool (CV xs ys))∧Below w.heap.size w w':=by
 obtain⟨a,n,cap,HN,rfl,hc1,hc2,hc8,hc⟩:=h1.open;obtain⟨a',n',cap',HN',rfl,hc1',hc2',hc8',hc'⟩:=h2.open;obtain⟨R,hR,hR1,_⟩:=Av w;have hRb:=hR.below;have hRn:=hR.drewN;by_cases hl:n=n'
 ·subst hl
  have Hall:=zh (Ln (xs:=xs) (ys:=ys) (by rw[←HN.out,←HN'.out]))
  go_enter Tryz.func141, Tryz.ntmps141
  go_wp2;go_loopw [13] (fun i wr=>∃k:Nat,k≤n∧i=.int .i64 k∧Hid (∀j,j<k→Ct xs j=Ct ys j)∧In R wr) (fun i _=>n-(intOf i).toNat)
  case atStart=>exact⟨0,by omega,rfl,fun j hj=>absurd hj (by omega),hR1⟩
  obtain⟨k,hk,rfl,Hs,hRw⟩:=hrel;clear hR1;by_cases hlt:k<n
  ·obtain⟨b,off,rfl,hb,hcell⟩:=hc (by omega)
   obtain⟨b',off',rfl,hb',hcell'⟩:=hc' (by omega);have hck:∀x,In R x→x.cell? ⟨b,off+k,none⟩=some (.int .i64 (Ct xs k)):=fun x hx=>hcell k x hlt (hRb x hx)
   have hck':∀x,In R x→x.cell? ⟨b',off'+k,none⟩=some (.int .i64 (Ct ys k)):=fun x hx=>hcell' k x hlt (hRb x hx)
   clear hc hc' hcell hcell';have hi1:=zk k;have hi2:(k:Int)<(n:Int):=by omega
   by_cases he:Ct xs k=Ct ys k
   ·have hq:(Ct xs k !=Ct ys k)=false:=by simpa using he
    have He:=zh he;clear he;go_wp2_with fail;go_quiet (fail);go_wp2;go_roundw
    case rel=>exact⟨k+1,by omega,by go_num,By Hs.out He.out,hRn _ _ hRw⟩
    case measure=>simp[intOf];omega
   ·have hq:(Ct xs k !=Ct ys k)=true:=by simpa using he
    have Hq:=zh (MD he);clear he;go_wp2_with fail;go_quiet (fail);go_wp2;go_ret;exact⟨by rw[Hq.out];rfl,hRb _ (hRn _ _ hRw)⟩
  ·have Hk:=zh (show CV xs ys=true from Hall.out (fun j hj=>Hs.out j (by have:=HN.out;omega)))
   go_wp2;go_ret;exact⟨by rw[Hk.out];rfl,hRb _ hRw⟩
 ·have Hl:=zh (Lo (xs:=xs) (ys:=ys) (by rw[←HN.out,←HN'.out];exact hl))
  go_enter Tryz.func141, Tryz.ntmps141
  go_wp2;go_ret;exact⟨by rw[Hl.out];rfl,hRb _ hR1⟩
theorem Sz (o p:Obj) (lv lv':Value) (S S':Nat→Prop) (w:World) (ho:Bu S w o lv) (hp:Bu S' w p lv'):
  Calls Tryz.prog 108 #[.agg #[.int .i64 o.id,.int .i64 o.kind,lv,.string o.text],.agg #[.int .i64 p.id,.int .i64 p.kind,lv',.string p.text]] w
   fun e w'=>e=.returned (.bool (BG o p))∧Below w.heap.size w w':=by
 obtain⟨q,rfl⟩:=ho.1.shape;obtain⟨q',rfl⟩:=hp.1.shape;have hb0:Below w.heap.size w w:=Below.refl _ _;have hb1:=DF w;have Hd:=zh (show BG o p=((o.id==p.id) && (o.kind==p.kind) && (o.text.toList==p.text.toList) && CV o.links p.links) from rfl);cases e1:(o.id==p.id)
 ·go_enter Tryz.func108, Tryz.ntmps108
  go_wp2;go_ret;exact⟨by rw[Hd.out,e1];rfl,hb1 _ _ (hb1 _ _ hb0)⟩
 ·cases e2:(o.kind==p.kind)
  ·go_enter Tryz.func108, Tryz.ntmps108
   go_wp2;go_ret;exact⟨by rw[Hd.out,e1,e2];rfl,hb1 _ _ (hb1 _ _ hb0)⟩
  ·cases e3:(o.text.toList==p.text.toList)
   ·go_enter Tryz.func108, Tryz.ntmps108
    go_wp2;go_ret;exact⟨by rw[Hd.out,e1,e2,e3];rfl,hb1 _ _ (hb1 _ _ hb0)⟩
   ·go_enter Tryz.func108, Tryz.ntmps108
    go_wp2_with (go_at_call 141;refine(Ve o.links p.links _ _ _ _ _ (ho.1.below (hb1 _ _ (hb1 _ _ hb0))) (hp.1.below (hb1 _ _ (hb1 _ _ hb0)))).mono ?_;rintro e w' ⟨rfl,hb2⟩);go_ret;exact⟨by rw[Hd.out,e1,e2,e3];rfl,Al (hb1 _ _ (hb1 _ _ hb0)) hb2⟩
end Go.Proofs.YtgbnlmplkealdaaGreatDoor
