
/- DeskA: acts. -/
import Derived.Test.YtgbnlmplkealdaaGreatDoorC31
set_option linter.all false
set_option maxHeartbeats 16000000
set_option maxRecDepth 100000
namespace Go.Proofs.YtgbnlmplkealdaaGreatDoor
open Go.RowKit
variable [Ghost]
structure Ac where
 kind:Int
 on:Int
 up:Int
 late:Int
 push:BM
@[reducible, simp, go_sem] def a7 (a:Ac) (oa:Option Addr) (oc:Nat) (ua:Option Addr) (uc:Nat):Array Value:=#[.int .i64 a.kind,.int .i64 a.on,.int .i64 a.up,.int .i64 a.late,.slice oa a.push.objects.length oc,.slice ua a.push.updates.length uc,.bool a.push.force]
def IS (a:Ac) (ov uv:Value):Value:=.agg #[.int .i64 a.kind,.int .i64 a.on,.int .i64 a.up,.int .i64 a.late,ov,uv,.bool a.push.force]
structure DC (S:Nat→Prop) (w:World) (a:Ac) (ov uv:Value):Prop where
 objs:Ai S w ov a.push.objects
 upds:AJ S w uv a.push.updates
 kind:Dy a.kind
 on:Dy a.on
 up:Dy a.up
 late:Dy a.late
theorem DC.below {S:Nat→Prop} {w w':World} {a:Ac} {ov uv:Value} (h:DC S w a ov uv) (hb:Below w.heap.size w w'):DC S w' a ov uv:=⟨h.objs.below hb,h.upds.below hb,h.kind,h.on,h.up,h.late⟩
theorem DC.weaken {S S':Nat→Prop} {w:World} {a:Ac} {ov uv:Value} (h:DC S w a ov uv) (hs:∀b,S b→S' b):DC S' w a ov uv:=⟨h.objs.weaken hs,h.upds.weaken hs,h.kind,h.on,h.up,h.late⟩
def Cu (a:Ac):Int:=
 if a.kind<1∨3<a.kind then 7 else if(a.kind=1∧a.on≠0)∨(a.kind≠1∧(BR a.push=false∨a.up≠0∨a.late≠0)) then 1 else if a.on<0∨3≤a.on then 3 else 0
theorem Vb {p:BM} (h:p.objects.length≠0):BR p=false:=by unfold BR;rw[decide_eq_false h];rfl
theorem Vc {p:BM} (h:p.updates.length≠0):BR p=false:=by unfold BR;rw[decide_eq_false h];simp
theorem Xn {p:BM} (h0:p.objects.length=0) (h1:p.updates.length=0):BR p=!p.force:=by unfold BR;rw[decide_eq_true h0,decide_eq_true h1];simp
theorem Xt (K:Nat) (sa:Option Addr) (sc:Nat) (told:Bool) (a:Ac) (ov uv:Value) (S:Nat→Prop) (w:World) (hK:w.heap[K]?=some (.cells #[.slice sa 3 sc,.bool told] 75 (0,0))) (ha:DC S w a ov uv):
  Calls Tryz.prog 61 #[.pointer (some ⟨K,0,none⟩),IS a ov uv] w fun e w'=>e=.returned (.int .i64 (Cu a))∧Below w.heap.size w w':=by
 obtain⟨oa,oc,rfl⟩:=ha.objs.vshape;obtain⟨⟨ua,uc⟩,rfl⟩:=ha.upds.shape;have HF:=zh (show Cu a=if a.kind<1∨3<a.kind then 7 else if(a.kind=1∧a.on≠0)∨(a.kind≠1∧(BR a.push=false∨a.up≠0∨a.late≠0)) then 1 else if a.on<0∨3≤a.on then 3 else 0 from rfl);obtain⟨R,hR,hR1,HB0⟩:=AF w [.cells #[.int .i64 a.kind,.int .i64 a.on,.int .i64 a.up,.int .i64 a.late,.slice oa a.push.objects.length oc,.slice ua a.push.updates.length uc,.bool a.push.force] 30,.cells #[.slice oa a.push.objects.length oc,.slice ua a.push.updates.length uc,.bool a.push.force] 28];simp only[List.foldl] at hR1;have hRb:=hR.below;have hRn:=hR.next
 have a0:=fun x (hx:In R x)=>Aa (j:=0) (HB0 x hx 0 _ rfl) rfl
 have a1:=fun x (hx:In R x)=>Aa (j:=1) (HB0 x hx 0 _ rfl) rfl
 have a2:=fun x (hx:In R x)=>Aa (j:=2) (HB0 x hx 0 _ rfl) rfl
 have a3:=fun x (hx:In R x)=>Aa (j:=3) (HB0 x hx 0 _ rfl) rfl
 have a4:=fun x (hx:In R x)=>Aa (j:=4) (HB0 x hx 0 _ rfl) rfl
 have a5:=fun x (hx:In R x)=>Aa (j:=5) (HB0 x hx 0 _ rfl) rfl
 have a6:=fun x (hx:In R x)=>Aa (j:=6) (HB0 x hx 0 _ rfl) rfl
 simp only[Nat.add_zero] at a0 a1 a2 a3 a4 a5 a6;have q0:=fun x (hx:In R x)=>Aa (j:=0) (HB0 x hx 1 _ rfl) rfl
 have q1:=fun x (hx:In R x)=>Aa (j:=1) (HB0 x hx 1 _ rfl) rfl
 have q2:=fun x (hx:In R x)=>Aa (j:=2) (HB0 x hx 1 _ rfl) rfl
 have k0:=fun x (hx:In R x)=>Ae (hRb _ hx) (Aa (j:=0) hK rfl)
 clear HB0 ha hK;simp only[IS]
 go_enter Tryz.func61, Tryz.ntmps61
 go_upto_region 2 with fail;generalize ((w.alloc (.cells #[.int .i64 a.kind,.int .i64 a.on,.int .i64 a.up,.int .i64 a.late,.slice oa a.push.objects.length oc,.slice ua a.push.updates.length uc,.bool a.push.force] 30)).alloc (.cells #[.slice oa a.push.objects.length oc,.slice ua a.push.updates.length uc,.bool a.push.force] 28))=w2 at*;have u0:=q0 _ hR1;have u1:=q1 _ hR1;have u2:=q2 _ hR1;go_cut [6] (fun s6 wx=>s6=.bool (BR a.push)∧wx=w2)
 case first=>
  generalize hno:a.push.objects.length=no at*;generalize hnu:a.push.updates.length=nu at*;have Hno:=zh hno;have Hnu:=zh hnu;clear hno hnu;by_cases h0:no=0
  case neg=>
   have HR:=zh (show BR a.push=false from Vb (by rw[Hno.out];exact h0));have qq:((no:Int)==0)=false:=by simp;omega
   clear h0;go_wp2_with fail;go_meet;exact⟨by rw[HR.out],rfl⟩
  have H0:=zh h0;have qq:((no:Int)==0)=true:=by simp;omega
  clear h0;by_cases h1:nu=0
  case neg=>
   have HR:=zh (show BR a.push=false from Vc (by rw[Hnu.out];exact h1));have qq1:((nu:Int)==0)=false:=by simp;omega
   clear h1;go_wp2_with fail;go_meet;exact⟨by rw[HR.out],rfl⟩
  have HR:=zh (show BR a.push=!a.push.force from Xn (by rw[Hno.out];exact H0.out) (by rw[Hnu.out];exact h1));have qq1:((nu:Int)==0)=true:=by simp;omega
  clear h1;go_wp2_with fail;go_meet;exact⟨by rw[HR.out],rfl⟩
 obtain⟨rfl,rfl⟩:=hcut;clear u0 u1 u2 q0 q1 q2;have v0:=a0 _ hR1;have v1:=a1 _ hR1;have v2:=a2 _ hR1;have v3:=a3 _ hR1;generalize hnb:BR a.push=nb at*;clear hnb;have HE:=zh (hRb _ hR1);generalize hkd:a.kind=kd at*;generalize hon:a.on=on at*;generalize hup:a.up=up at*;generalize hla:a.late=la at*;clear hkd hon hup hla;by_cases g1:kd<1
 case pos=>
  have HC:=zh (show Cu a=7 by rw[HF.out,if_pos (.inl g1)]);clear HF;go_wp2_with fail;go_ret;exact⟨Af HC.out.symm,HE.out⟩
 by_cases g2:3<kd
 case pos=>
  have HC:=zh (show Cu a=7 by rw[HF.out,if_pos (.inr g2)]);clear HF;go_wp2_with fail;go_ret;exact⟨Af HC.out.symm,HE.out⟩
 have hk:=zh (show¬(kd<1∨3<kd) from by omega);by_cases g3:kd=1
 case pos=>
  have qk:(kd==1)=true:=by simpa using g3
  have qk2:(kd !=1)=false:=by simpa using g3
  by_cases g4:on=0
  case neg=>
   have qo:(on !=0)=true:=by simpa using g4
   have HC:=zh (show Cu a=1 by rw[HF.out,if_neg hk.out,if_pos (.inl ⟨g3,g4⟩)]);clear HF;go_wp2_with fail;go_ret;exact⟨Af HC.out.symm,HE.out⟩
  have qo:(on !=0)=false:=by simpa using g4
  have hs:=zh (show¬((kd=1∧on≠0)∨(kd≠1∧(nb=false∨up≠0∨la≠0))) from fun h=>h.elim (fun h=>h.2 g4) (fun h=>h.1 g3));have g40:=zh g4;have hon0:¬on<0:=by omega
  have hon3:¬3≤on:=by omega
  clear g3 g4;by_cases g8:on<0
  case pos=>
   exact absurd g8 hon0
  go_upto_region 8 with fail;clear v0 v1 v2 v3;refine rh (In R) ?_;have hC0:=hR.drew _ hR1;generalize hx0:wc.drew=x0 at hC0⊢;clear hx0;by_cases g9:3≤on
  case pos=>
   exact absurd g9 hon3
  have HC:=zh (show Cu a=0 by rw[HF.out,if_neg hk.out,if_neg hs.out,if_neg (by omega)]);clear HF;refine tk 0 (.pointer (some ⟨w.heap.size,1,none⟩)) (fun w hSw=>?_) hC0 ?_
  ·go_simp
  simp only[tkS];refine tk 1 (.int .i64 on) (fun w hSw=>?_) hC0 ?_
  ·have yy:=a1 _ hSw;go_simp
  simp only[tkS];refine tk 2 (.bool false) (fun w hSw=>?_) hC0 ?_
  ·go_simp
  simp only[tkS];refine tk 3 (.bool false) (fun w hSw=>?_) hC0 ?_
  ·go_simp
  simp only[tkS];refine tk 4 (.pointer (some ⟨w.heap.size,1,none⟩)) (fun w hSw=>?_) hC0 ?_
  ·go_simp
  simp only[tkS];refine tk 5 (.int .i64 on) (fun w hSw=>?_) hC0 ?_
  ·have yy:=a1 _ hSw;go_simp
  simp only[tkS];refine tk 6 (.pointer (some ⟨K,0,none⟩)) (fun w hSw=>?_) hC0 ?_
  ·go_simp
  simp only[tkS];refine tk 7 (.pointer (some ⟨K,0,none⟩)) (fun w hSw=>?_) hC0 ?_
  ·go_simp
  simp only[tkS];refine tk 8 (.pointer (some ⟨K,0,none⟩)) (fun w hSw=>?_) hC0 ?_
  ·go_simp
  simp only[tkS];refine tk 9 (.pointer (some ⟨K,0,none⟩)) (fun w hSw=>?_) hC0 ?_
  ·go_simp
  simp only[tkS];refine tk 10 (.slice sa 3 sc) (fun w hSw=>?_) hC0 ?_
  ·have yy:=k0 _ hSw;go_simp
  simp only[tkS];refine tk 11 (.int .i64 3) (fun w hSw=>?_) hC0 ?_
  ·go_simp
  simp only[tkS];refine tk 12 (.bool false) (fun w hSw=>?_) hC0 ?_
  ·go_simp
  simp only[tkS];refine tk 13 (.bool false) (fun w hSw=>?_) hC0 ?_
  ·go_simp
  simp only[tkS];refine tk 14 (.bool false) (fun w hSw=>?_) hC0 ?_
  ·go_simp
  simp only[tkS];refine wpAnyH_done (by kernel_rfl) ?_ _;have HE2:=zh (hRb _ hC0);go_wp2_with fail;go_ret;exact⟨Af HC.out.symm,HE2.out⟩
 have qk:(kd==1)=false:=by simpa using g3
 have qk2:(kd !=1)=true:=by simpa using g3
 have g30:=zh g3;clear g3;cases nb
 case false=>
  have HC:=zh (show Cu a=1 by rw[HF.out,if_neg hk.out,if_pos (.inr ⟨g30.out,.inl rfl⟩)]);clear HF;go_wp2_with fail;go_ret;exact⟨Af HC.out.symm,HE.out⟩
 by_cases g5:up=0
 case neg=>
  have qu:(up !=0)=true:=by simpa using g5
  have HC:=zh (show Cu a=1 by rw[HF.out,if_neg hk.out,if_pos (.inr ⟨g30.out,.inr (.inl g5)⟩)]);clear HF;go_wp2_with fail;go_ret;exact⟨Af HC.out.symm,HE.out⟩
 have qu:(up !=0)=false:=by simpa using g5
 have g50:=zh g5;clear g5;by_cases g6:la=0
 case neg=>
  have ql:(la !=0)=true:=by simpa using g6
  have HC:=zh (show Cu a=1 by rw[HF.out,if_neg hk.out,if_pos (.inr ⟨g30.out,.inr (.inr g6)⟩)]);clear HF;go_wp2_with fail;go_ret;exact⟨Af HC.out.symm,HE.out⟩
 have ql:(la !=0)=false:=by simpa using g6
 have hs:=zh (show¬((kd=1∧on≠0)∨(kd≠1∧(true=false∨up≠0∨la≠0))) from fun h=>h.elim (fun h=>g30.out h.1) (fun h=>h.2.elim (fun h=>by cases h) (fun h=>h.elim (fun h=>h g50.out) (fun h=>h g6))));clear g6;by_cases g8:on<0
 case pos=>
  go_upto_region 8 with fail;clear v0 v1 v2 v3;refine rh (In R) ?_;have hC0:=hR.drew _ hR1;generalize hx0:wc.drew=x0 at hC0⊢;clear hx0;have HC:=zh (show Cu a=3 by rw[HF.out,if_neg hk.out,if_neg hs.out,if_pos (.inl g8)]);clear HF;refine tk 0 (.pointer (some ⟨w.heap.size,1,none⟩)) (fun w hSw=>?_) hC0 ?_
  ·go_simp
  simp only[tkS];refine tk 1 (.int .i64 on) (fun w hSw=>?_) hC0 ?_
  ·have yy:=a1 _ hSw;go_simp
  simp only[tkS];refine tk 2 (.bool true) (fun w hSw=>?_) hC0 ?_
  ·go_simp
  simp only[tkS];refine tk 3 (.bool true) (fun w hSw=>?_) hC0 ?_
  ·go_simp
  simp only[tkS];refine wpAnyH_take (i:=4) (v:=undef) rfl (by kernel_rfl) (by kernel_rfl) (by kernel_rfl) (fun _ _ _ h=>h) (Or.inr ⟨by rfl,rfl⟩) hC0 ?_;simp only[tkS];refine wpAnyH_take (i:=5) (v:=undef) rfl (by kernel_rfl) (by kernel_rfl) (by kernel_rfl) (fun _ _ _ h=>h) (Or.inr ⟨by rfl,rfl⟩) hC0 ?_;simp only[tkS];refine wpAnyH_take (i:=6) (v:=undef) rfl (by kernel_rfl) (by kernel_rfl) (by kernel_rfl) (fun _ _ _ h=>h) (Or.inr ⟨by rfl,rfl⟩) hC0 ?_;simp only[tkS];refine wpAnyH_take (i:=7) (v:=undef) rfl (by kernel_rfl) (by kernel_rfl) (by kernel_rfl) (fun _ _ _ h=>h) (Or.inr ⟨by rfl,rfl⟩) hC0 ?_;simp only[tkS];refine wpAnyH_take (i:=8) (v:=undef) rfl (by kernel_rfl) (by kernel_rfl) (by kernel_rfl) (fun _ _ _ h=>h) (Or.inr ⟨by rfl,rfl⟩) hC0 ?_;simp only[tkS];refine wpAnyH_take (i:=9) (v:=undef) rfl (by kernel_rfl) (by kernel_rfl) (by kernel_rfl) (fun _ _ _ h=>h) (Or.inr ⟨by rfl,rfl⟩) hC0 ?_;simp only[tkS];refine wpAnyH_take (i:=10) (v:=undef) rfl (by kernel_rfl) (by kernel_rfl) (by kernel_rfl) (fun _ _ _ h=>h) (Or.inr ⟨by rfl,rfl⟩) hC0 ?_;simp only[tkS];refine wpAnyH_take (i:=11) (v:=undef) rfl (by kernel_rfl) (by kernel_rfl) (by kernel_rfl) (fun _ _ _ h=>h) (Or.inr ⟨by rfl,rfl⟩) hC0 ?_;simp only[tkS];refine wpAnyH_take (i:=12) (v:=undef) rfl (by kernel_rfl) (by kernel_rfl) (by kernel_rfl) (fun _ _ _ h=>h) (Or.inr ⟨by rfl,rfl⟩) hC0 ?_;simp only[tkS];refine tk 13 (.bool true) (fun w hSw=>?_) hC0 ?_
  ·go_simp
  simp only[tkS];refine tk 14 (.bool true) (fun w hSw=>?_) hC0 ?_
  ·go_simp
  simp only[tkS];refine wpAnyH_done (by kernel_rfl) ?_ _;have HE2:=zh (hRb _ hC0);go_wp2_with fail;go_ret;exact⟨Af HC.out.symm,HE2.out⟩
 go_upto_region 8 with fail;clear v0 v1 v2 v3;refine rh (In R) ?_;have hC0:=hR.drew _ hR1;generalize hx0:wc.drew=x0 at hC0⊢;clear hx0;by_cases g9:3≤on
 case pos=>
  have HC:=zh (show Cu a=3 by rw[HF.out,if_neg hk.out,if_neg hs.out,if_pos (.inr g9)]);clear HF;refine tk 0 (.pointer (some ⟨w.heap.size,1,none⟩)) (fun w hSw=>?_) hC0 ?_
  ·go_simp
  simp only[tkS];refine tk 1 (.int .i64 on) (fun w hSw=>?_) hC0 ?_
  ·have yy:=a1 _ hSw;go_simp
  simp only[tkS];refine tk 2 (.bool false) (fun w hSw=>?_) hC0 ?_
  ·go_simp
  simp only[tkS];refine tk 3 (.bool false) (fun w hSw=>?_) hC0 ?_
  ·go_simp
  simp only[tkS];refine tk 4 (.pointer (some ⟨w.heap.size,1,none⟩)) (fun w hSw=>?_) hC0 ?_
  ·go_simp
  simp only[tkS];refine tk 5 (.int .i64 on) (fun w hSw=>?_) hC0 ?_
  ·have yy:=a1 _ hSw;go_simp
  simp only[tkS];refine tk 6 (.pointer (some ⟨K,0,none⟩)) (fun w hSw=>?_) hC0 ?_
  ·go_simp
  simp only[tkS];refine tk 7 (.pointer (some ⟨K,0,none⟩)) (fun w hSw=>?_) hC0 ?_
  ·go_simp
  simp only[tkS];refine tk 8 (.pointer (some ⟨K,0,none⟩)) (fun w hSw=>?_) hC0 ?_
  ·go_simp
  simp only[tkS];refine tk 9 (.pointer (some ⟨K,0,none⟩)) (fun w hSw=>?_) hC0 ?_
  ·go_simp
  simp only[tkS];refine tk 10 (.slice sa 3 sc) (fun w hSw=>?_) hC0 ?_
  ·have yy:=k0 _ hSw;go_simp
  simp only[tkS];refine tk 11 (.int .i64 3) (fun w hSw=>?_) hC0 ?_
  ·go_simp
  simp only[tkS];refine tk 12 (.bool true) (fun w hSw=>?_) hC0 ?_
  ·go_simp
  simp only[tkS];refine tk 13 (.bool true) (fun w hSw=>?_) hC0 ?_
  ·go_simp
  simp only[tkS];refine tk 14 (.bool true) (fun w hSw=>?_) hC0 ?_
  ·go_simp
  simp only[tkS];refine wpAnyH_done (by kernel_rfl) ?_ _;have HE2:=zh (hRb _ hC0);go_wp2_with fail;go_ret;exact⟨Af HC.out.symm,HE2.out⟩
 have HC:=zh (show Cu a=0 by rw[HF.out,if_neg hk.out,if_neg hs.out,if_neg (by omega)]);clear HF;refine tk 0 (.pointer (some ⟨w.heap.size,1,none⟩)) (fun w hSw=>?_) hC0 ?_
 ·go_simp
 simp only[tkS];refine tk 1 (.int .i64 on) (fun w hSw=>?_) hC0 ?_
 ·have yy:=a1 _ hSw;go_simp
 simp only[tkS];refine tk 2 (.bool false) (fun w hSw=>?_) hC0 ?_
 ·go_simp
 simp only[tkS];refine tk 3 (.bool false) (fun w hSw=>?_) hC0 ?_
 ·go_simp
 simp only[tkS];refine tk 4 (.pointer (some ⟨w.heap.size,1,none⟩)) (fun w hSw=>?_) hC0 ?_
 ·go_simp
 simp only[tkS];refine tk 5 (.int .i64 on) (fun w hSw=>?_) hC0 ?_
 ·have yy:=a1 _ hSw;go_simp
 simp only[tkS];refine tk 6 (.pointer (some ⟨K,0,none⟩)) (fun w hSw=>?_) hC0 ?_
 ·go_simp
 simp only[tkS];refine tk 7 (.pointer (some ⟨K,0,none⟩)) (fun w hSw=>?_) hC0 ?_
 ·go_simp
 simp only[tkS];refine tk 8 (.pointer (some ⟨K,0,none⟩)) (fun w hSw=>?_) hC0 ?_
 ·go_simp
 simp only[tkS];refine tk 9 (.pointer (some ⟨K,0,none⟩)) (fun w hSw=>?_) hC0 ?_
 ·go_simp
 simp only[tkS];refine tk 10 (.slice sa 3 sc) (fun w hSw=>?_) hC0 ?_
 ·have yy:=k0 _ hSw;go_simp
 simp only[tkS];refine tk 11 (.int .i64 3) (fun w hSw=>?_) hC0 ?_
 ·go_simp
 simp only[tkS];refine tk 12 (.bool false) (fun w hSw=>?_) hC0 ?_
 ·go_simp
 simp only[tkS];refine tk 13 (.bool false) (fun w hSw=>?_) hC0 ?_
 ·go_simp
 simp only[tkS];refine tk 14 (.bool false) (fun w hSw=>?_) hC0 ?_
 ·go_simp
 simp only[tkS];refine wpAnyH_done (by kernel_rfl) ?_ _;have HE2:=zh (hRb _ hC0);go_wp2_with fail;go_ret;exact⟨Af HC.out.symm,HE2.out⟩
end Go.Proofs.YtgbnlmplkealdaaGreatDoor
