
/- InsR: slices. -/
import Derived.Test.YtgbnlmplkealdaaGreatDoorC7
set_option linter.all false
set_option maxHeartbeats 4000000
set_option maxRecDepth 100000
namespace Go.Proofs.YtgbnlmplkealdaaGreatDoor
open Go.RowKit
variable [Ghost]
theorem Tryz.infoRef:(Tryz.prog.info? 86).map (fun i=>(i.zero,i.size,i.bytes))=some (some (.agg #[.string ⟨#[]⟩,.int .i64 0]),2,24):=by kernel_rfl
def Li (xs ys:List Value) (i:Nat):List Value:=xs.take (i*2)++ys++xs.drop (i*2)
theorem VG {xs ys A:List Value} {i n:Nat} (hx:xs.length=n*2) (hA:A.take (n*2)=xs) (hy:ys.length=2) (hi:i<n) (hAl:(n+1)*2≤A.length) {C:List Value}
  (hC:C=A.take ((i+1)*2)++xs.drop (i*2)++A.drop ((i+1)*2+(xs.drop (i*2)).length)):
  (C.take (i*2)++ys++C.drop (i*2+ys.length)).take ((n+1)*2)=Li xs ys i∧C.length=A.length∧(C.take (i*2)++ys++C.drop (i*2+ys.length)).length=A.length:=by
 have e1:(A.take ((i+1)*2)).length=(i+1)*2:=by rw[List.length_take];omega
 have e2:(xs.drop (i*2)).length=(n-i)*2:=by rw[List.length_drop,hx];omega
 have hCl:C.length=A.length:=by subst hC;rw[List.length_append,List.length_append,e1,e2,List.length_drop];omega
 have t1:C.take (i*2)=xs.take (i*2):=by
  subst hC;rw[List.append_assoc,List.take_append_of_le_length (by omega),List.take_take,←hA,List.take_take];congr 1;omega
 have d1:C.drop (i*2+ys.length)=xs.drop (i*2)++A.drop ((i+1)*2+(xs.drop (i*2)).length):=by
  subst hC;rw[hy,show i*2+2=(A.take ((i+1)*2)).length by omega,List.append_assoc,List.drop_left]
 refine⟨?_,hCl,?_⟩
 ·rw[t1,d1,←List.append_assoc]
  have hl:(xs.take (i*2)++ys++xs.drop (i*2)).length=(n+1)*2:=by
   rw[List.length_append,List.length_append,List.length_take,e2,hy,hx];omega
  rw[←hl,List.take_left];rfl
 ·rw[List.length_append,List.length_append,List.length_take,List.length_drop,hCl,hy];omega
theorem VF {xs ys A C:List Value} {i n:Nat} (hx:xs.length=n*2) (hA:A.take (i*2)=xs.take (i*2)) (hy:ys.length=2) (hi:i<n) (hAl:(n+1)*2≤A.length)
  (hC:C=A.take (i*2)++ys++A.drop (i*2+ys.length)):
  (C.take ((i+1)*2)++xs.drop (i*2)++C.drop ((i+1)*2+(xs.drop (i*2)).length)).take ((n+1)*2)=Li xs ys i∧C.length=A.length∧(C.take ((i+1)*2)++xs.drop (i*2)++C.drop ((i+1)*2+(xs.drop (i*2)).length)).length=A.length:=by
 have e1:(A.take (i*2)).length=i*2:=by rw[List.length_take];omega
 have e2:(xs.drop (i*2)).length=(n-i)*2:=by rw[List.length_drop,hx];omega
 have hCl:C.length=A.length:=by subst hC;rw[List.length_append,List.length_append,e1,hy,List.length_drop];omega
 have t1:C.take ((i+1)*2)=xs.take (i*2)++ys:=by
  have:(i+1)*2=(A.take (i*2)++ys).length:=by rw[List.length_append,e1,hy];omega
  rw[this,hC,List.take_left,hA]
 refine⟨?_,hCl,?_⟩
 ·rw[t1]
  have hl:(xs.take (i*2)++ys++xs.drop (i*2)).length=(n+1)*2:=by
   rw[List.length_append,List.length_append,List.length_take,e2,hy,hx];omega
  rw[←hl,List.take_left];rfl
 ·rw[List.length_append,List.length_append,List.length_take,e2,List.length_drop,hCl];omega
def GW (w:World) (B n:Nat) (v:Value) (zs:List Value) (e:Ending) (w':World):Prop:=
 ∃v',e=.returned v'∧w'.ownsRow B 86 2 v' (n+1) zs∧w.grownBy w' v.ownBlock∧(v'.ownBlock=v.ownBlock∨∃k,v'.ownBlock=some k∧w.heap.size≤k)
theorem RJ {w:World} {B n N:Nat} {v:Value} {xs ys:List Value} (hown:w.ownsRow B 86 2 v n xs) (hN:w.heap[N]?=some (.cells ys.toArray 86 (0,0)))
  (hy:ys.length=2) (h1:∀u∈ys,u.oneCell'=true) (hn:n≤1000) (hB:B≤w.heap.size):
  Calls Tryz.prog 201 #[v,.int .i64 n,.slice (some ⟨N,0,none⟩) 1 1] w (GW w B n v (Li xs ys n)):=by
 obtain⟨i0,hi0,hz0,hz1,hz2⟩:=info_parts Tryz.infoRef;have e:Li xs ys n=xs++ys:=by
  unfold Li;rw[List.take_of_length_le (by rw[hown.1];omega),List.drop_eq_nil_of_le (by rw[hown.1];omega),List.append_nil]
 rw[e];obtain⟨g,cap,x,hr,ho,hg,hor,hlt⟩:=run_append_lies (P:=Tryz.prog) w 32 32 B 86 i0 _ 2 24 Tryz.underlying32 hi0 hz0 hz1 hz2 rfl (by omega) v n xs hown ⟨N,0,none⟩ 1 1 ys (by omega)
  (fun j u hu=>by
   have:(⟨N,0,none⟩:Addr).add j=⟨N,j,none⟩:=by unfold Addr.add;split<;>simp_all
   rw[this];exact Aa hN (by simpa using hu)) h1 (by omega) (by unfold maxLen;omega) (by omega) hB _ rfl
 have hres:GW w B n v (xs++ys) (.returned (.slice (some ⟨g,0,none⟩) (n+1) cap)) x:=by
  refine⟨_,rfl,ho,hg,?_⟩;rcases hor with h|h
  ·exact .inl h.symm
  ·exact .inr ⟨g,rfl,by omega⟩
 obtain⟨va,vc,rfl⟩:∃va vc,v=.slice va n vc:=by
  rcases hown.2 with⟨rfl,rfl⟩|⟨_,_,_,rfl,_⟩
  ·exact⟨_,_,rfl⟩
  ·exact⟨_,_,rfl⟩
 have hvc:n≤vc:=by
  rcases hown.2 with⟨e,rfl⟩|⟨_,_,_,e,_,_,h,_⟩
  ·omega
  ·cases e;exact h
 clear ho hg hor hlt hown;rcases Classical.em (vc=n) with rfl|hvn
 ·go_enter Tryz.func201, Tryz.ntmps201
  go_wp2_with (at_builtin;refine CF rfl _ _ 32 32 rfl _ _ _ rfl rfl hr ?_);go_ret;exact hres
 ·go_enter Tryz.func201, Tryz.ntmps201
  go_wp2_with (at_builtin;refine CF rfl _ _ 32 32 rfl _ _ _ rfl rfl hr ?_);go_ret;exact hres
theorem Zu (w:World):(sizeOf 86).run Tryz.prog w=.ok 2 w:=by
 obtain⟨i0,hi0,hz0,hz1,hz2⟩:=info_parts Tryz.infoRef;simp[sizeOf,typeInfo,hi0,hz1]
theorem MT (w:World) {N g o:Nat} {ys cur:List Value} (hN:w.heap[N]?=some (.cells ys.toArray 86 (0,0))) (hg:w.heap[g]?=some (.cells cur.toArray 86 (0,0))) (hne:N≠g) (hc:cur.length≠0) (a b:Nat):
  (callFunc 210 #[.slice (some ⟨N,0,none⟩) 1 1,.slice (some ⟨g,o,none⟩) a b]).run Tryz.prog w=.ok (.value (.bool false)) w:=by
 rw[run_callFunc_extern Tryz.func210 (by kernel_rfl) (by kernel_rfl) (by kernel_rfl) (e:=Extern.SlicesOverlaps.overlaps #[32,32] #[4]) (by kernel_rfl),
  Lib.run_overlaps_apart w 32 4 86 Tryz.underlying32 2 Zu ⟨N,0,none⟩ ⟨g,o,none⟩ 1 1 a b hne 86 86 ys.length cur.length
   (by simp[World.shape?,hN]) (by simp[World.shape?,hg]) hc (by simp[World.frozen?,hN]) (by simp[World.frozen?,hN])]
 rfl
theorem Pd {w:World} {B n N i g cap:Nat} {xs ys:List Value} {cur:Array Value} (hB:B≤g) (hg:w.heap[g]?=some (.cells cur 86 (0,0))) (hcap:cap≤maxLen) (hcur:cur.size=cap*2)
  (hx:cur.toList.take (n*2)=xs) (hN:w.heap[N]?=some (.cells ys.toArray 86 (0,0))) (hne:N≠g)
  (hy:ys.length=2) (h1:∀u∈ys,u.oneCell'=true) (h1x:∀u∈xs,u.oneCell'=true) (hn:n≤1000) (hi:i<n) (hroom:n+1≤cap):
  Calls Tryz.prog 201 #[.slice (some ⟨g,0,none⟩) n cap,.int .i64 i,.slice (some ⟨N,0,none⟩) 1 1] w (GW w B n (.slice (some ⟨g,0,none⟩) n cap) (Li xs ys i)):=by
 have hsz:(Tryz.prog.info? 86).map (·.size)=some 2:=by
  obtain⟨i0,hi0,hz0,hz1,hz2⟩:=info_parts Tryz.infoRef;rw[hi0];simp[hz1]
 have hxl:xs.length=n*2:=by rw[←hx,List.length_take];simp[hcur];omega
 obtain⟨C,hC⟩:∃C:List Value,C=cur.toList.take ((i+1)*2)++xs.drop (i*2)++cur.toList.drop ((i+1)*2+(xs.drop (i*2)).length):=⟨_,rfl⟩;obtain⟨p1,p2,p3⟩:=VG hxl hx hy hi (by simp[hcur];omega) hC;obtain⟨D,hD⟩:∃D:List Value,D=C.take (i*2)++ys++C.drop (i*2+ys.length):=⟨_,rfl⟩;rw[←hD] at p1 p3;have hov:=fun o a b=>MT w (o:=o) hN (cur:=cur.toList) (by simpa using hg) hne (by simp[hcur];omega) a b
 have hdl:(xs.drop (i*2)).length=(n-i)*2:=by rw[List.length_drop,hxl];omega
 have hcp1:∀W:World,W.heap=w.heap→∀ty dc sc,(Builtin.copy_ #[32,32] ty #[.slice (some ⟨g,(i+1)*2,none⟩) (n-i) dc,.slice (some ⟨g,i*2,none⟩) (n+1-i) sc]).run Tryz.prog W=.ok (goInt ((n-i:Nat):Int)) (W.setRow g C.toArray):=fun W hW ty dc sc=>by
  rw[hC];exact CB W _ _ ty 86 2 (n-i) g ((i+1)*2) _ _ ⟨g,i*2,none⟩ _ _ cur 86 (xs.drop (i*2)) Tryz.underlying32 hsz (by rw[hW];exact hg) (by simp only[Nat.min_def];split<;>omega) hdl
   (fun j u hu=>by
    have ha:(⟨g,i*2,none⟩:Addr).add j=⟨g,i*2+j,none⟩:=by unfold Addr.add;split<;>simp_all
    rw[ha];refine Aa (by rw[hW];exact hg) ?_;have hj:i*2+j<n*2:=by
     rcases Nat.lt_or_ge (i*2+j) (n*2) with h|h
     ·exact h
     ·rw[List.getElem?_eq_none (by omega)] at hu;cases hu
    rw[List.getElem?_drop,←hx,List.getElem?_take,if_pos hj] at hu;simpa using hu) (by rw[hdl,hcur];omega) (fun u hu=>h1x u (List.mem_of_mem_drop hu))
 have hcp2:∀W:World,W.heap=(w.setRow g C.toArray).heap→∀ty dc,(Builtin.copy_ #[32,32] ty #[.slice (some ⟨g,i*2,none⟩) (n+1-i) dc,.slice (some ⟨N,0,none⟩) 1 1]).run Tryz.prog W=.ok (goInt ((1:Nat):Int)) (W.setRow g D.toArray):=fun W hW ty dc=>by
  rw[hD];exact CB W _ _ ty 86 2 1 g (i*2) _ _ ⟨N,0,none⟩ _ _ C.toArray 86 ys Tryz.underlying32 hsz (by rw[hW];exact setRow_heap w g cur _ _ _ hg) (by simp only[Nat.min_def];split<;>omega) (by omega)
   (fun j u hu=>by
    have ha:(⟨N,0,none⟩:Addr).add j=⟨N,j,none⟩:=by unfold Addr.add;split<;>simp_all
    rw[ha];exact Aa (by rw[hW,setRow_other w g N _ hne];exact hN) (by simpa using hu)) (by simp[p2,hcur];omega) h1
 have hres:∀W:World,W.heap=((w.setRow g C.toArray).setRow g D.toArray).heap→W.os=w.os→W.tape=w.tape→W.output=w.output→GW w B n (.slice (some ⟨g,0,none⟩) n cap) (Li xs ys i) (.returned (.slice (some ⟨g,0,none⟩) (n+1) cap)) W:=fun W hW q1 q2 q3=>by
  have hgl:(Li xs ys i).length=(n+1)*2:=by rw[←p1,List.length_take,p3];simp[hcur];omega
  refine⟨_,rfl,⟨hgl,.inr ⟨g,cap,D.toArray,rfl,hB,?_,hroom,hcap,by simp[p3,hcur],p1⟩⟩,⟨q1,q2,q3,by rw[hW];simp,fun k hk hr=>?_⟩,.inl rfl⟩
  ·rw[hW];exact setRow_heap _ g C.toArray _ _ _ (setRow_heap w g cur _ _ _ hg)
  ·have hk:k≠g:=fun e=>hr (by subst e;rfl)
   rw[hW,setRow_other _ _ _ _ hk,setRow_other _ _ _ _ hk]
 clear hC hD p1 p2 p3 hdl hx hxl hsz hg hN hcur h1 h1x hB;have hz2:¬((i:Int)=(n:Int)):=by omega
 have hw1:IntKind.i64.wrap ((i:Int)+1)=(i:Int)+1:=by rw[IntKind.wrap_i64];omega
 have hw2:IntKind.i64.wrap ((n:Int)+1)=(n:Int)+1:=by rw[IntKind.wrap_i64];omega
 have hb1:(0:Int)≤(i:Int)+1:=by omega
 have hb0:¬((i:Int)+1<0):=by omega
 have htn:((i:Int)+1).toNat=i+1:=by omega
 have hb2:¬(cap=i+1):=by omega
 have hb4:¬(cap=i):=by omega
 have hb5:(n:Int)+1≤(cap:Int):=by omega
 have hb6:(i:Int)≤(n:Int):=by omega
 have hb7:(i:Int)+1≤(n:Int)+1:=by omega
 have hb8:(i:Int)≤(n:Int)+1:=by omega
 have hm:cap≤9223372036854775807:=by unfold maxLen at hcap;omega
 clear hcap
 go_enter Tryz.func201, Tryz.ntmps201
 go_wp2_with (simp only[hov]);go_region_law (refine FB rfl _ _ 32 32 rfl (.slice (some ⟨g,(i+1)*2,none⟩) (n-i) (cap-(i+1))) (.slice (some ⟨g,i*2,none⟩) (n+1-i) (cap-i)) _ (by simp[Act.eval,Act.put]) (by simp[Act.eval,Act.put]) (hcp1 _ (by rfl) 3 (cap-(i+1)) (cap-i)) ?_)
 have hc2:=hcp2 (w.drew.setRow g C.toArray) (by rfl);go_wp2_with fail
 try rw[hc2]
 go_wp2;go_ret;exact hres _ rfl rfl rfl rfl
theorem Qv {w:World} {B n N i g cap:Nat} {xs ys:List Value} {cur:Array Value} (hB:B≤w.heap.size) (hg:w.heap[g]?=some (.cells cur 86 (0,0))) (hcap:n≤cap) (hcur:cur.size=cap*2)
  (hx:cur.toList.take (n*2)=xs) (hN:w.heap[N]?=some (.cells ys.toArray 86 (0,0)))
  (hy:ys.length=2) (h1:∀u∈ys,u.oneCell'=true) (h1x:∀u∈xs,u.oneCell'=true) (hn:n≤1000) (hi:i<n) (hroom:cap<n+1):
  Calls Tryz.prog 201 #[.slice (some ⟨g,0,none⟩) n cap,.int .i64 i,.slice (some ⟨N,0,none⟩) 1 1] w (GW w B n (.slice (some ⟨g,0,none⟩) n cap) (Li xs ys i)):=by
 obtain⟨i0,hi0,hz0,hz1,hz2⟩:=info_parts Tryz.infoRef;have hsz:(Tryz.prog.info? 86).map (·.size)=some 2:=by rw[hi0];simp[hz1]
 obtain rfl:cap=n:=by omega
 have hxl:xs.length=cap*2:=by rw[←hx,List.length_take];simp[hcur]
 have hxg:∀j u,xs[j]?=some u→cur[j]?=some u:=fun j u hu=>by
  rw[←hx,List.getElem?_take] at hu;split at hu
  ·simpa using hu
  ·cases hu
 obtain⟨zz,hzz⟩:∃zz:Value,zz=.agg #[.string ⟨#[]⟩,.int .i64 0]:=⟨_,rfl⟩;rw[←hzz] at hz0;have hold:(Builtin.firstCells i0.size i (.slice (some ⟨g,0,none⟩) i cap)).run Tryz.prog w.drew=.ok (xs.take (i*2)).toArray w.drew:=by
  rw[hz1];exact run_firstCells_some w.drew 2 i ⟨g,0,none⟩ i cap (xs.take (i*2)) (by rw[List.length_take];omega) (fun j u hu=>by
   have ha:(⟨g,0,none⟩:Addr).add j=⟨g,j,none⟩:=by unfold Addr.add;split<;>simp_all
   rw[ha];refine Aa (w:=w.drew) hg ?_;rw[List.getElem?_take] at hu;split at hu
   ·exact hxg j u hu
   ·cases hu)
 obtain⟨G,hG⟩:∃G,G=grownCap w (cap+1) cap 86:=⟨_,rfl⟩;obtain⟨ROW,hROW⟩:∃ROW:List Value,ROW=xs.take (i*2)++(Builtin.zeroCells zz.cells (cap+1-i)).toList++(Builtin.zeroCells zz.cells (G-(cap+1))).toList:=⟨_,rfl⟩;have hGn:cap+1≤G:=by rw[hG];exact grownCap_ge w _ _ _
 have hGm:G≤maxLen:=by rw[hG];exact grownCap_le_maxLen w (cap+1) cap _ (by unfold maxLen;omega)
 have hRl:ROW.length=G*2:=by
  rw[hROW,hzz];simp[Builtin.zeroCells,Value.cells,List.length_take,hxl];omega
 have happ:∀ty,(Builtin.append_ #[32,3] ty #[.slice (some ⟨g,0,none⟩) i cap,.int .i64 ((cap:Int)+1-(i:Int))]).run Tryz.prog w=
   .ok (.slice (some ⟨w.heap.size,0,none⟩) (cap+1) G) (w.drew.alloc (.cells ROW.toArray 86)):=fun ty=>by
  have h:=Lib.run_append_grow_zeros w 32 3 ty 86 i0 zz .i64 .i64 Tryz.underlying32 Tryz.underlying3 hi0 hz0 (some ⟨g,0,none⟩) i cap (xs.take (i*2)) hold (cap+1-i) (by omega) (by omega) (by omega) (by omega) (by rw[hz2];omega)
   (by rw[hz2,show i+(cap+1-i)=cap+1 by omega];exact growslice_fits hroom (by omega))
  rw[show i+(cap+1-i)=cap+1 by omega,←hG] at h;have hA:(xs.take (i*2)).toArray++Builtin.zeroCells zz.cells (cap+1-i)++Builtin.zeroCells zz.cells (G-(cap+1))=ROW.toArray:=by
   rw[hROW];apply Array.ext';simp
  rw[show(cap:Int)+1-(i:Int)=((cap+1-i:Nat):Int) by omega,h,hA]
 obtain⟨w1,hw1⟩:∃w1,w1=w.drew.alloc (.cells ROW.toArray 86):=⟨_,rfl⟩;rw[←hw1] at happ;have hnew:w1.heap[w.heap.size]?=some (.cells ROW.toArray 86 (0,0)):=by rw[hw1];exact heap_alloc_new w.drew _
 have hsame:∀k,k<w.heap.size→w1.heap[k]?=w.heap[k]?:=fun k hk=>by rw[hw1];exact heap_alloc_old w.drew _ hk
 have hNw:=lt_of_block hN;have hgw:=lt_of_block hg;obtain⟨C,hC⟩:∃C:List Value,C=ROW.take (i*2)++ys++ROW.drop (i*2+ys.length):=⟨_,rfl⟩;have hRt:ROW.take (i*2)=xs.take (i*2):=by
  rw[hROW,List.append_assoc,List.take_append_of_le_length (by rw[List.length_take];omega),List.take_take,Nat.min_self]
 obtain⟨p1,p2,p3⟩:=VF hxl hRt hy hi (by omega) hC;obtain⟨D,hD⟩:∃D:List Value,D=C.take ((i+1)*2)++xs.drop (i*2)++C.drop ((i+1)*2+(xs.drop (i*2)).length):=⟨_,rfl⟩;rw[←hD] at p1 p3;have hdl:(xs.drop (i*2)).length=(cap-i)*2:=by rw[List.length_drop,hxl];omega
 have hcp1:∀W:World,W.heap=w1.heap→∀ty dc,(Builtin.copy_ #[32,32] ty #[.slice (some ⟨w.heap.size,i*2,none⟩) (cap+1-i) dc,.slice (some ⟨N,0,none⟩) 1 1]).run Tryz.prog W=.ok (goInt ((1:Nat):Int)) (W.setRow w.heap.size C.toArray):=fun W hW ty dc=>by
  rw[hC];exact CB W _ _ ty 86 2 1 w.heap.size (i*2) _ _ ⟨N,0,none⟩ _ _ ROW.toArray 86 ys Tryz.underlying32 hsz (by rw[hW];exact hnew) (by simp only[Nat.min_def];split<;>omega) (by omega)
   (fun j u hu=>by
    have ha:(⟨N,0,none⟩:Addr).add j=⟨N,j,none⟩:=by unfold Addr.add;split<;>simp_all
    rw[ha];exact Aa (by rw[hW,hsame N hNw];exact hN) (by simpa using hu)) (by simp[hRl];omega) h1
 have hcp2:∀W:World,W.heap=(w1.setRow w.heap.size C.toArray).heap→∀ty dc sc,(Builtin.copy_ #[32,32] ty #[.slice (some ⟨w.heap.size,(i+1)*2,none⟩) (cap-i) dc,.slice (some ⟨g,i*2,none⟩) (cap-i) sc]).run Tryz.prog W=.ok (goInt ((cap-i:Nat):Int)) (W.setRow w.heap.size D.toArray):=fun W hW ty dc sc=>by
  rw[hD];exact CB W _ _ ty 86 2 (cap-i) w.heap.size ((i+1)*2) _ _ ⟨g,i*2,none⟩ _ _ C.toArray 86 (xs.drop (i*2)) Tryz.underlying32 hsz (by rw[hW];exact setRow_heap w1 _ _ _ _ _ hnew) (by simp) hdl
   (fun j u hu=>by
    have ha:(⟨g,i*2,none⟩:Addr).add j=⟨g,i*2+j,none⟩:=by unfold Addr.add;split<;>simp_all
    rw[ha];refine Aa (by rw[hW,setRow_other _ _ _ _ (by omega),hsame g hgw];exact hg) ?_;rw[List.getElem?_drop] at hu;exact hxg _ _ hu) (by rw[hdl];simp[p2,hRl];omega) (fun u hu=>h1x u (List.mem_of_mem_drop hu))
 have hres:∀W:World,W.heap=((w1.setRow w.heap.size C.toArray).setRow w.heap.size D.toArray).heap→W.os=w.os→W.tape=w.tape→W.output=w.output→GW w B cap (.slice (some ⟨g,0,none⟩) cap cap) (Li xs ys i) (.returned (.slice (some ⟨w.heap.size,0,none⟩) (cap+1) G)) W:=fun W hW q1 q2 q3=>by
  have hgl:(Li xs ys i).length=(cap+1)*2:=by rw[←p1,List.length_take,p3,hRl];omega
  refine⟨_,rfl,⟨hgl,.inr ⟨w.heap.size,G,D.toArray,rfl,hB,?_,hGn,hGm,by simp[p3,hRl],p1⟩⟩,⟨q1,q2,q3,by rw[hW];simp[hw1],fun k hk hr=>?_⟩,.inr ⟨_,rfl,Nat.le_refl _⟩⟩
  ·rw[hW];exact setRow_heap _ _ _ _ _ _ (setRow_heap w1 _ _ _ _ _ hnew)
  ·rw[hW,setRow_other _ _ _ _ (by omega),setRow_other _ _ _ _ (by omega),hsame k hk]
 have hG63:G≤9223372036854775807:=by unfold maxLen at hGm;omega
 clear hC hD p1 p2 p3 hdl hx hxl hsz hN hcur h1 h1x hB hRt hnew hsame hold hz0 hz1 hz2 hi0 hROW hG hRl hxg hzz hNw hgw hGm hg;have hz2:¬((i:Int)=(cap:Int)):=by omega
 have hw2:IntKind.i64.wrap ((i:Int)+1)=(i:Int)+1:=by rw[IntKind.wrap_i64];omega
 have hw3:IntKind.i64.wrap ((cap:Int)+1)=(cap:Int)+1:=by rw[IntKind.wrap_i64];omega
 have hw4:IntKind.i64.wrap ((cap:Int)+1-(i:Int))=(cap:Int)+1-(i:Int):=by rw[IntKind.wrap_i64];omega
 have hb1:(0:Int)≤(i:Int)+1:=by omega
 have hb0:¬((i:Int)+1<0):=by omega
 have htn:((i:Int)+1).toNat=i+1:=by omega
 have hb2:¬(G=i+1):=by omega
 have hb3:¬(G=i):=by omega
 have hb4:¬(cap=i):=by omega
 have hb6:(i:Int)≤(cap:Int):=by omega
 have hb7:(i:Int)+1≤(cap:Int)+1:=by omega
 have hb8:(i:Int)≤(cap:Int)+1:=by omega
 subst hw1
 go_enter Tryz.func201, Tryz.ntmps201
 go_wp2_with (at_builtin;refine CF rfl _ _ 32 3 rfl _ _ _ rfl rfl (happ _) ?_);have hc1:=hcp1 ((w.alloc (.cells ROW.toArray 86)).drew) (by rfl);go_wp2_with fail
 try rw[hc1]
 go_wp2;go_region_law (refine FB rfl _ _ 32 32 rfl (.slice (some ⟨w.heap.size,(i+1)*2,none⟩) (cap-i) (G-(i+1))) (.slice (some ⟨g,i*2,none⟩) (cap-i) (cap-i)) _ (by simp[Act.eval,Act.put]) (by simp[Act.eval,Act.put]) (hcp2 _ (by rfl) 3 (G-(i+1)) (cap-i)) ?_)
 go_wp2;go_ret;exact hres _ rfl rfl rfl rfl
theorem VE {f g:Nat→List Value} {n i:Nat} {ys:List Value} (hf:∀j,j<n→(f j).length=2) (hi:i≤n) (h1:∀j,j<i→g j=f j) (h2:g i=ys) (h3:∀j,i≤j→j<n→g (j+1)=f j):
  Li (AN f n) ys i=AN g (n+1):=by
 obtain⟨k,rfl⟩:∃k,n=i+k:=⟨n-i,by omega⟩;have hl:(AN f i).length=i*2:=Bc fun j hj=>hf j (by omega)
 unfold Li;rw[Df f i k,←hl,List.take_left,List.drop_left,show i+k+1=i+(1+k) by omega,Df g i (1+k),KS,List.append_assoc];congr 1
 ·exact Bi fun j hj=>(h1 j hj).symm
 ·simp only[Nat.add_zero]
  rw[h2];congr 1
  refine Bi fun j hj=>?_
  rw[show i+(1+j)=(i+j)+1 by omega,h3 (i+j) (by omega) (by omega)]
theorem RK {w:World} {B n N i:Nat} {v:Value} {xs ys:List Value} (hown:w.ownsRow B 86 2 v n xs) (hN:w.heap[N]?=some (.cells ys.toArray 86 (0,0))) (hne:v.ownBlock≠some N)
  (hy:ys.length=2) (h1:∀u∈ys,u.oneCell'=true) (h1x:∀u∈xs,u.oneCell'=true) (hn:n≤1000) (hB:B≤w.heap.size) (hi:i≤n):
  Calls Tryz.prog 201 #[v,.int .i64 i,.slice (some ⟨N,0,none⟩) 1 1] w (GW w B n v (Li xs ys i)):=by
 by_cases he:i=n
 ·subst he;exact RJ hown hN hy h1 hn hB
 ·obtain⟨hl,⟨rfl,h0⟩|⟨g,cap,cur,rfl,hBg,hg,hnc,hcm,hcs,hxs⟩⟩:=hown
  ·omega
  ·by_cases hr:n+1≤cap
   ·exact Pd hBg hg hcm hcs hxs hN (fun e=>hne (by subst e;rfl)) hy h1 h1x hn (by omega) hr
   ·exact Qv hB hg hnc hcs hxs hN hy h1 h1x hn (by omega) (by omega)
end Go.Proofs.YtgbnlmplkealdaaGreatDoor
