
/- Walks: refs moved: each, Raw, Apply. -/
import Derived.Test.YtgbnlmplkealdaaGreatDoorC12
import Derived.Laws.StructEq
set_option linter.all false
set_option maxHeartbeats 4000000
set_option maxRecDepth 100000
namespace Go.Proofs.YtgbnlmplkealdaaGreatDoor
open Go.RowKit
variable [Ghost]
structure ZB (g:Nat) (f:Array Value) (l:List Mv) (w0:World) (I:Nat→World→Prop) (err:Nat→Int):Prop where
 enter:∀args w,(callFunc g args).run Tryz.prog w=.ok (.enter g args) w
 below:∀k x,I k x→Below w0.heap.size w0 x
 next:∀k x y,I k x→Below x.heap.size x y→I k y
 step:∀k x,k<l.length→An err k=0→I k x→
  Calls Tryz.prog g (f++#[.agg #[.string (mv l k).name,.int .i64 (mv l k).old,.int .i64 (mv l k).new]]) x fun e w'=>e=.returned (.int .i64 (err k))∧Below w0.heap.size w0 w'∧(err k=0→I (k+1) w')
theorem Va {g:Nat} {f:Array Value} {l:List Mv} {w0 w:World} {I:Nat→World→Prop} {err:Nat→Int} (hd:ZB g f l w0 I err) (lv:Value) (S:Nat→Prop) (h:AJ S w0 lv l) (h0:I 0 w):
  Calls Tryz.prog 171 #[lv,.func (.func g) f #[]] w fun e w'=>e=.returned (.int .i64 (An err l.length))∧Below w0.heap.size w0 w'∧(An err l.length=0→I l.length w'):=by
 have h':=h;obtain⟨a,n,cap,HN,rfl,h1,h2,h3,h4⟩:=h.open;have eg:=hd.enter;have Hd:=zh hd;have Hn:=zh HN.out;rw[←Hn.out];clear h hd
 go_enter Tryz.func171, Tryz.ntmps171
 go_wp2_with fail;go_loopw [10] (fun i wr=>∃k:Nat,k≤n∧i=.int .i64 k∧Hid (An err k=0)∧Hid (I k wr)) (fun i _=>n-(intOf i).toNat)
 case atStart=>exact⟨0,by omega,rfl,rfl,h0⟩
 obtain⟨k,hk,rfl,Hs,HI⟩:=hrel;clear h0;have hRw:=Hd.out.below _ _ HI.out;by_cases hlt:k<n
 ·obtain⟨b,off,rfl,hb,k0,k1,k2⟩:=h4 (by omega)
  have x0:=k0 k wr hlt hRw;have x1:=k1 k wr hlt hRw;have x2:=k2 k wr hlt hRw;obtain⟨Q,hQ,hQ1,hy⟩:=BO wr #[.string (mv l k).name,.int .i64 (mv l k).old,.int .i64 (mv l k).new] 88;have y0:=hy 0 _ rfl;have y1:=hy 1 _ rfl;have y2:=hy 2 _ rfl;clear hy;have Hc:=zh (Hd.out.step k _ (by rw[←Hn.out];exact hlt) Hs.out (Hd.out.next _ _ _ HI.out (hQ.below _ hQ1)));have z0:=y0 _ hQ1;have z1:=y1 _ hQ1;have z2:=y2 _ hQ1;have hi1:=zk k;have hi2:(k:Int)<(n:Int):=by omega
  clear k0 k1 k2 h4 y0 y1 y2;by_cases he:err k=0
  ·have hq:(err k !=0)=false:=by simpa using he
   have Hs2:=zh (show An err (k+1)=0 from Ay Hs.out he);have He:=zh he;clear he;go_wp2_with fail;refine Hc.out.mono ?_;rintro e w' ⟨rfl,hb2,hI2⟩;have HI2:=zh (hI2 He.out);clear hI2 hb2;go_wp2_with fail;go_roundw
   case rel=>exact⟨k+1,by omega,by go_num,Hs2,HI2⟩
   case measure=>simp[intOf];omega
  ·have hq:(err k !=0)=true:=by simpa using he
   have Hs2:=zh (show An err n=err k from BX Hs.out he hlt);have He:=zh he;clear he;go_wp2_with fail;refine Hc.out.mono ?_;rintro e w' ⟨rfl,hb2,hI2⟩;clear hI2;go_wp2_with fail;go_ret;exact⟨Af Hs2.out.symm,hb2,fun h=>absurd (Hs2.out.symm.trans h) He.out⟩
 ·obtain rfl:k=n:=by omega
  go_wp2_with fail;go_ret;exact⟨Af Hs.out.symm,hRw,fun _=>HI.out⟩
def Wv (w w':World) (e:Ending) (l:List Rf) (c:Int):Prop:=∃v,e=.returned (.tuple #[v,.int .i64 c])∧AB (fun b=>w.heap.size≤b) w' v l∧Below w.heap.size w w'
theorem Tz {l:List Rf} {us:List Mv} {objs:List Obj} {force:Bool} {ov:Value} (ha:KG l) (hcm:∀r∈l,AC objs r.id=3) (hR:Right objs) (hus:∀u∈us,Dy u.old∧Dy u.new∧u.name.size≤140737488351232)
  (hl:l.length≤400) (hn:us.length≤200) (w0:World) (ho:Ai (fun b=>b<w0.heap.size) w0 ov objs) (J:Nat) (hJ:w0.heap.size≤J):
  ZB 172 #[.pointer (some ⟨J,0,none⟩)] us w0 (fun k x=>Et w0.heap.size J ov force x (AL l us k)∧Below w0.heap.size w0 x) (BJ l objs us force) where
 enter:=fun _ _=>rfl
 below:=fun k x h=>h.2
 next:=fun k x y h hb=>⟨h.1.below hb,Al h.2 hb⟩
 step:=fun k x hk hs hI=>by
  have hj:=XJ hI.1 (EQ ha us k) (FP hcm k hs) hR (ho.low hI.2) (mv us k) (hus _ (Cz hk)) (by have:=EX l us k;omega) hJ;refine hj.mono ?_;rintro e w' ⟨rfl,h1,h2⟩;have hb:Below w0.heap.size w0 w':=hI.2.trans h1;exact⟨rfl,hb,fun h=>⟨h2 h,hb⟩⟩
theorem Sf {B:Nat} {w1:World} {v ov:Value} {force:Bool} {l:List Rf} (h:Dr B w1 v l):Et B w1.heap.size ov force (w1.alloc (.cells #[v,ov,.bool force] 196)) l:=
 ⟨v,h.below bal,fun e=>by have:=(h.block e).2;omega,heap_alloc_new w1 _⟩
theorem Uc (l:List Rf) (objs:List Obj) (us:List Mv) (force:Bool) (lv ov uv:Value) (S S2 S3:Nat→Prop) (w:World) (h:AB S w lv l) (ho:Ai S2 w ov objs) (hu:AJ S3 w uv us)
  (hk:Fk l objs) (hR:Right objs) (hul:us.length≤100):
  Calls Tryz.prog 162 #[lv,ov,uv,.bool force] w fun e w'=>Wv w w' e (Ey l objs us force) (Ce l objs us force):=by
 have hmf:∀(fn:Fn) (first cap:Array Value) (w:World),(Instr.makeFunc fn first cap).run Tryz.prog w=.ok (.func fn first cap) w:=fun _ _ _ _=>rfl
 have Hcl:=zh (Gl l lv S w h);have HE:=zh (fun J (hJ:w.heap.size≤J) x (hx:Et w.heap.size J ov force x l∧Below w.heap.size w x)=>Va (Tz (force:=force) hk.asc (fun r hr=>by obtain⟨i,hi,rfl⟩:=Ma hr;exact hk.commit i hi) hR hu.2 (by have:=hk.many;omega) (by omega) w ((ho.lt).weaken (fun b hb=>hb.2)) J hJ) uv S3 hu hx);have HC:=zh (fun v x S' (hx:AB S' x v (AL l us us.length)) (hb:Below w.heap.size w x)=>Md (AL l us us.length) objs v ov S' S2 x hx (ho.below hb) hR.rising);have HwE:=zh (show Ce l objs us force=if An (BJ l objs us force) us.length=0 then AE (AL l us us.length) objs else An (BJ l objs us force) us.length from rfl);have HwL:=zh (show Ey l objs us force=if Ce l objs us force=0 then AL l us us.length else[] from rfl);have hjl:=EX l us us.length;have hm8:=hk.many;have HJl:=zh (show(AL l us us.length).length*24≤140737488351232 by omega);obtain⟨⟨la,lc⟩,rfl⟩:=h.shape;obtain⟨⟨ua,uc⟩,rfl⟩:=hu.shape;obtain⟨oa,oc,rfl⟩:=ho.vshape;clear h hu ho hjl hm8 hk hul;generalize AL l us us.length=jl at*;generalize An (BJ l objs us force) us.length=se at*;have h3:(se=0∧AE jl objs=0)∨(se=0∧AE jl objs≠0)∨se≠0:=by
  by_cases a:se=0
  ·by_cases b:AE jl objs=0
   ·exact .inl ⟨a,b⟩
   ·exact .inr (.inl ⟨a,b⟩)
  ·exact .inr (.inr a)
 rcases h3 with⟨hs,hc⟩|⟨hs,hc⟩|hs
 case' inl=>
  have hq:(se==0)=true:=by simpa using hs
  have hq2:(AE jl objs !=0)=false:=by simpa using hc
  rw[if_pos hs] at HwE;have Hs:=zh hs;rw[HwL.out,HwE.out,if_pos hc,hc];clear hs hc
 case' inr.inl=>
  have hq:(se==0)=true:=by simpa using hs
  have hq2:(AE jl objs !=0)=true:=by simpa using hc
  rw[if_pos hs] at HwE;have Hs:=zh hs;rw[HwL.out,HwE.out,if_neg hc];clear hs hc
 case' inr.inr=>
  have hq:(se==0)=false:=by simpa using hs
  have hq2:(se !=0)=true:=by simpa using hs
  rw[if_neg hs] at HwE;rw[HwL.out,HwE.out,if_neg hs];clear hs
 all_goals
  go_enter Tryz.func162, Tryz.ntmps162
  go_wp2_with fail;refine Hcl.out.mono ?_;rintro e w1 ⟨v1,rfl,hg1,hb1⟩;obtain⟨va,vc,rfl⟩:=hg1.shape;have hJ:=Sf (ov:=.slice oa objs.length oc) (force:=force) hg1;have hb2:Below w.heap.size w (w1.alloc (.cells #[.slice va l.length vc,.slice oa objs.length oc,.bool force] 196)):=Al hb1 bal;have Hea:=zh (HE.out w1.heap.size hb1.size _ ⟨hJ,hb2⟩);clear hJ hb2 hg1 hb1;go_wp2_with fail;refine Hea.out.mono ?_;rintro e w3 ⟨rfl,hb3,hI3⟩
 ·have Hb3:=zh hb3
  clear hI3;go_wp2_with fail;go_ret2;exact⟨_,rfl,AB.nil _ _ _ _ (by omega),Hb3.out⟩
 ·obtain⟨hJ3,hB3⟩:=hI3 Hs.out
  obtain⟨v3,hG3,_,hc3⟩:=hJ3;obtain⟨a3,c3,rfl⟩:=hG3.shape;have hst:=hG3.refs HJl.out;have j0:=Aa (j:=0) hc3 rfl;have Hck:=zh (HC.out _ _ _ hst hB3);go_wp2_with fail;refine Hck.out.mono ?_;rintro e w4 ⟨rfl,hb4⟩;have j4:=Aa (j:=0) ((hb4.block _ (lt_of_block hc3)).trans hc3) rfl;have Hend:=zh (And.intro (hst.below hb4) (Al hB3 hb4));go_wp2_with fail;go_ret2;exact⟨_,rfl,AB.nil _ _ _ _ (by omega),Hend.out.2⟩
 ·obtain⟨hJ3,hB3⟩:=hI3 Hs.out
  obtain⟨v3,hG3,_,hc3⟩:=hJ3;obtain⟨a3,c3,rfl⟩:=hG3.shape;have hst:=hG3.refs HJl.out;have j0:=Aa (j:=0) hc3 rfl;have Hck:=zh (HC.out _ _ _ hst hB3);go_wp2_with fail;refine Hck.out.mono ?_;rintro e w4 ⟨rfl,hb4⟩;have j4:=Aa (j:=0) ((hb4.block _ (lt_of_block hc3)).trans hc3) rfl;have Hend:=zh (And.intro ((hst.below hb4).weaken fun _ h=>h.1) (Al hB3 hb4));go_wp2_with fail;go_ret2;exact⟨_,rfl,Hend.out.1,Hend.out.2⟩
theorem Xw (l:List Rf) (v:Value) (S:Nat→Prop) (s:ByteArray) (w:World) (h:AB S w v l):
  Calls Tryz.prog 143 #[v,.string s] w fun e w'=>e=.returned (.int .i64 (CR l s))∧w=w':=by
 have h':=h;obtain⟨a,n,cap,HN,rfl,h1,h2,h3,h4,h5⟩:=h.open;have Hr:=zh (VL l _ S s w h');by_cases hf:CI l s=-1
 ·have HI:=zh (show CR l s=0 by unfold CR;rw[if_pos hf])
  rw[hf] at Hr;clear hf h4 h5 h h'
  go_enter Tryz.func143, Tryz.ntmps143
  go_wp2_with fail;refine Hr.out.mono ?_;rintro e w' ⟨rfl,rfl⟩;go_wp2_with fail;go_ret;exact⟨Af HI.out.symm,rfl⟩
 ·obtain⟨k,hk,hfk,hkn⟩:=GK hf
  have HI:=zh (show CR l s=(rf l k).id by unfold CR;rw[if_neg hf,hfk];rfl);rw[hfk] at Hr;have hkn2:k<n:=by rw[HN.out];exact hk
  obtain⟨b,off,rfl,hb,k0,k1⟩:=h4 (by omega);have x1:=k1 k w hkn2 (Below.refl _ _);have hi1:=zk k;have hi2:(k:Int)<(n:Int):=by omega
  have hi3:decide ((k:Int)<0)=false:=decide_eq_false (by omega);clear hf hfk hkn k0 k1 h4 h5 h h' hk
  go_enter Tryz.func143, Tryz.ntmps143
  go_wp2_with fail;refine Hr.out.mono ?_;rintro e w' ⟨rfl,rfl⟩;go_wp2_with fail;go_ret;exact⟨Af HI.out.symm,rfl⟩
def Ww (w w':World) (e:Ending) (l:List Rf):Prop:=∃v,e=.returned v∧AB (fun b=>w.heap.size≤b) w' v l∧Below w.heap.size w w'
theorem MM (l:List Rf) (s:ByteArray) (id:Int):∀k,(JA l s id k).length≤2*k
 |0=>Nat.le_refl _
 |k+1=>by
  have:=MM l s id k;rw[JA];simp only[List.length_append];have h1:(if !GC l s id k && Au s (rf l k).name then[(⟨s,id⟩:Rf)] else[]).length≤1:=by split<;>simp
  have h2:(if(rf l k).name.toList==s.toList then[] else[rf l k]).length≤1:=by split<;>simp
  omega
theorem Wg (l:List Rf) (lv:Value) (S:Nat→Prop) (s:ByteArray) (id:Int) (w:World) (h:AB S w lv l) (hs:Dy id∧s.size≤140737488351232) (hl:l.length≤1000):
  Calls Tryz.prog 145 #[lv,.string s,.int .i64 id] w fun e w'=>Ww w w' e (CW l s id):=by
 have h':=h;obtain⟨a,n,cap,HN,rfl,h1,h2,h3,h4,h5⟩:=h.open;have H5:=zh h5;clear h h5;obtain⟨R,hR,hR1,hRall⟩:=Av w;have hRb:=hR.below;have hRn:=hR.next
 have HP0:=zh (show GC l s id 0=(id==0) from rfl);have HPn:=zh (fun k=>show GC l s id (k+1)=(GC l s id k||Au s (rf l k).name) from rfl);have HOn:=zh (fun k=>show JA l s id (k+1)=JA l s id k++(if !GC l s id k && Au s (rf l k).name then[⟨s,id⟩] else[])++(if(rf l k).name.toList==s.toList then[] else[rf l k]) from rfl);have HSp:=zh (show JA l s id n++(if GC l s id n then[] else[⟨s,id⟩])=CW l s id by rw[HN.out];exact Wh l s id);have HOl:=zh (fun k (hk:k≤n)=>show(JA l s id k).length≤2000 by have:=MM l s id k;have:=HN.out;omega);have Hsk:=zh (show Ra ⟨s,id⟩ from hs);have HH:=zh (fun x (hx:In R x) (w5:World) (v:Value) (hu5:AK (fun b=>Value.ownBlock v=some b) x w5) (hv:∀g,Value.ownBlock v=some g→w.heap.size≤g)=>show In R w5 from hRall _ ((hRb _ hx).trans (hu5.below (B:=w.heap.size) (hRb _ hx).size (fun b hb=>hv b hb))));have hqs:∀b:Bool,((!b)=true↔b=false):=by intro b;cases b<;>simp
 clear hqs;cases hq0:(id==0)
 all_goals
  rw[hq0] at HP0
  go_enter Tryz.func145, Tryz.ntmps145
  go_wp2_with fail;go_loopw [7,8,9] (fun v p i wr=>∃k:Nat,k≤n∧i=.int .i64 k∧p=.bool (GC l s id k)∧Hid (Dr w.heap.size wr v (JA l s id k))∧In R wr) (fun _ _ i _=>n-(intOf i).toNat)
  case atStart=>exact⟨0,by omega,rfl,by rw[HP0.out],Dr.nil _ _,hR1⟩
  obtain⟨k,hk,rfl,rfl,HG,hRw⟩:=hrel;clear hR1;obtain⟨va,vc,hvs⟩:=HG.out.shape;obtain⟨vn,hvn⟩:∃vn,vn=(JA l s id k).length:=⟨_,rfl⟩;rw[←hvn] at hvs;clear hvn;subst hvs;have Hl2:=zh (HOl.out k hk);by_cases hlt:k<n
  ·obtain⟨b,off,rfl,hb,k0,k1⟩:=h4 (by omega)
   have x0:=fun x hx=>k0 k x hlt (hRb x hx)
   have x1:=fun x hx=>k1 k x hlt (hRb x hx)
   clear h4 k0 k1;have Hrk:=zh (show Ra (rf l k) from H5.out k hlt);have hi1:=zk k;have hi2:(k:Int)<(n:Int):=by omega
   have Hpn:=zh (HPn.out k);have Hon:=zh (HOn.out k);have Hst:=zh (show Au s (rf l k).name=Op.bytesLess s.toList (rf l k).name.toList from rfl);have hBs:=(hRb _ hRw).size;have y0:=x0 _ hRw;have y1:=x1 _ hRw;cases hp:GC l s id k<;>cases hq:Op.bytesLess s.toList (rf l k).name.toList<;>cases he:((rf l k).name.toList==s.toList)
   ·have he2:((rf l k).name.toList !=s.toList)=!((rf l k).name.toList==s.toList):=rfl
    rw[he] at he2;simp only[Bool.not_true,Bool.not_false] at he2;rw[hp,Hst.out,hq,he] at Hon;rw[hp,Hst.out,hq] at Hpn;simp only[Bool.not_false,Bool.not_true,Bool.and_true,Bool.and_false,Bool.false_and,Bool.true_and,if_true,if_false,Bool.false_eq_true,List.append_nil,Bool.or_false,Bool.or_true,Bool.false_or,Bool.true_or] at Hon Hpn;clear Hst;go_wp2_with (at_builtin;refine CG (p:=rf l k) rfl _ _ rfl HG.out Hrk.out (by have:=Hl2.out;omega) hBs rfl rfl (by first|rfl|simp) ?_);intro v' w5 hG5 hu5;have hR5:=HH.out _ hRw w5 _ hu5 (fun g hg=>(HG.out.block hg).1);have HG5:=zh hG5;obtain⟨pv,hpv⟩:∃p:Option Addr×Nat×Nat,v'=.slice p.1 p.2.1 p.2.2:=let⟨a,c,h⟩:=hG5.shape;⟨(a,_,c),h⟩;clear hG5 hu5;subst hpv;go_wp2_with fail;go_roundw
    case rel=>exact⟨k+1,by omega,by go_num,by rw[Hpn.out],by rw[Hon.out];exact HG5.out,hR5⟩
    case measure=>simp[intOf];omega
   ·have he2:((rf l k).name.toList !=s.toList)=!((rf l k).name.toList==s.toList):=rfl
    rw[he] at he2;simp only[Bool.not_true,Bool.not_false] at he2;rw[hp,Hst.out,hq,he] at Hon;rw[hp,Hst.out,hq] at Hpn;simp only[Bool.not_false,Bool.not_true,Bool.and_true,Bool.and_false,Bool.false_and,Bool.true_and,if_true,if_false,Bool.false_eq_true,List.append_nil,Bool.or_false,Bool.or_true,Bool.false_or,Bool.true_or] at Hon Hpn;clear Hst;go_wp2_with fail;go_roundw
    case rel=>exact⟨k+1,by omega,by go_num,by rw[Hpn.out],by rw[Hon.out];exact HG.out,hRw⟩
    case measure=>simp[intOf];omega
   ·have he2:((rf l k).name.toList !=s.toList)=!((rf l k).name.toList==s.toList):=rfl
    rw[he] at he2;simp only[Bool.not_true,Bool.not_false] at he2;rw[hp,Hst.out,hq,he] at Hon;rw[hp,Hst.out,hq] at Hpn;simp only[Bool.not_false,Bool.not_true,Bool.and_true,Bool.and_false,Bool.false_and,Bool.true_and,if_true,if_false,Bool.false_eq_true,List.append_nil,Bool.or_false,Bool.or_true,Bool.false_or,Bool.true_or] at Hon Hpn;clear Hst;go_wp2_with (at_builtin;refine CG (p:=⟨s,id⟩) rfl _ _ rfl HG.out Hsk.out (by have:=Hl2.out;omega) hBs rfl rfl (by first|rfl|simp) ?_);intro v' w5 hG5 hu5;have hR5:=HH.out _ hRw w5 _ hu5 (fun g hg=>(HG.out.block hg).1);have HG5:=zh hG5;obtain⟨pv,hpv⟩:∃p:Option Addr×Nat×Nat,v'=.slice p.1 p.2.1 p.2.2:=let⟨a,c,h⟩:=hG5.shape;⟨(a,_,c),h⟩;clear hG5 hu5 y0 y1;subst hpv;have y05:=x0 _ hR5;have y15:=x1 _ hR5;have hBs5:=(hRb _ hR5).size;go_wp2_with (at_builtin;refine CG (p:=rf l k) rfl _ _ rfl HG5.out Hrk.out (by have:=Hl2.out;simp only[List.length_append,List.length_singleton];omega) hBs5 rfl rfl (by first|rfl|simp) ?_);intro v6 w6 hG6 hu6;have hR6:=HH.out _ hR5 w6 _ hu6 (fun g hg=>(HG5.out.block hg).1);have HG6:=zh hG6;obtain⟨pv6,hpv6⟩:∃p:Option Addr×Nat×Nat,v6=.slice p.1 p.2.1 p.2.2:=let⟨a,c,h⟩:=hG6.shape;⟨(a,_,c),h⟩;clear hG6 hu6;subst hpv6;go_wp2_with fail;go_roundw
    case rel=>exact⟨k+1,by omega,by go_num,by rw[Hpn.out],by have hx:=HG6.out;rw[Hon.out,List.append_assoc];exact hx,hR6⟩
    case measure=>simp[intOf];omega
   ·exfalso
    rw[beq_iff_eq] at he;rw[he,Ji] at hq;cases hq
   ·have he2:((rf l k).name.toList !=s.toList)=!((rf l k).name.toList==s.toList):=rfl
    rw[he] at he2;simp only[Bool.not_true,Bool.not_false] at he2;rw[hp,Hst.out,hq,he] at Hon;rw[hp,Hst.out,hq] at Hpn;simp only[Bool.not_false,Bool.not_true,Bool.and_true,Bool.and_false,Bool.false_and,Bool.true_and,if_true,if_false,Bool.false_eq_true,List.append_nil,Bool.or_false,Bool.or_true,Bool.false_or,Bool.true_or] at Hon Hpn;clear Hst;go_wp2_with (at_builtin;refine CG (p:=rf l k) rfl _ _ rfl HG.out Hrk.out (by have:=Hl2.out;omega) hBs rfl rfl (by first|rfl|simp) ?_);intro v' w5 hG5 hu5;have hR5:=HH.out _ hRw w5 _ hu5 (fun g hg=>(HG.out.block hg).1);have HG5:=zh hG5;obtain⟨pv,hpv⟩:∃p:Option Addr×Nat×Nat,v'=.slice p.1 p.2.1 p.2.2:=let⟨a,c,h⟩:=hG5.shape;⟨(a,_,c),h⟩;clear hG5 hu5;subst hpv;go_wp2_with fail;go_roundw
    case rel=>exact⟨k+1,by omega,by go_num,by rw[Hpn.out],by rw[Hon.out];exact HG5.out,hR5⟩
    case measure=>simp[intOf];omega
   ·have he2:((rf l k).name.toList !=s.toList)=!((rf l k).name.toList==s.toList):=rfl
    rw[he] at he2;simp only[Bool.not_true,Bool.not_false] at he2;rw[hp,Hst.out,hq,he] at Hon;rw[hp,Hst.out,hq] at Hpn;simp only[Bool.not_false,Bool.not_true,Bool.and_true,Bool.and_false,Bool.false_and,Bool.true_and,if_true,if_false,Bool.false_eq_true,List.append_nil,Bool.or_false,Bool.or_true,Bool.false_or,Bool.true_or] at Hon Hpn;clear Hst;go_wp2_with fail;go_roundw
    case rel=>exact⟨k+1,by omega,by go_num,by rw[Hpn.out],by rw[Hon.out];exact HG.out,hRw⟩
    case measure=>simp[intOf];omega
   ·have he2:((rf l k).name.toList !=s.toList)=!((rf l k).name.toList==s.toList):=rfl
    rw[he] at he2;simp only[Bool.not_true,Bool.not_false] at he2;rw[hp,Hst.out,hq,he] at Hon;rw[hp,Hst.out,hq] at Hpn;simp only[Bool.not_false,Bool.not_true,Bool.and_true,Bool.and_false,Bool.false_and,Bool.true_and,if_true,if_false,Bool.false_eq_true,List.append_nil,Bool.or_false,Bool.or_true,Bool.false_or,Bool.true_or] at Hon Hpn;clear Hst;go_wp2_with (at_builtin;refine CG (p:=rf l k) rfl _ _ rfl HG.out Hrk.out (by have:=Hl2.out;omega) hBs rfl rfl (by first|rfl|simp) ?_);intro v' w5 hG5 hu5;have hR5:=HH.out _ hRw w5 _ hu5 (fun g hg=>(HG.out.block hg).1);have HG5:=zh hG5;obtain⟨pv,hpv⟩:∃p:Option Addr×Nat×Nat,v'=.slice p.1 p.2.1 p.2.2:=let⟨a,c,h⟩:=hG5.shape;⟨(a,_,c),h⟩;clear hG5 hu5;subst hpv;go_wp2_with fail;go_roundw
    case rel=>exact⟨k+1,by omega,by go_num,by rw[Hpn.out],by rw[Hon.out];exact HG5.out,hR5⟩
    case measure=>simp[intOf];omega
   ·exfalso
    rw[beq_iff_eq] at he;rw[he,Ji] at hq;cases hq
  ·obtain rfl:k=n:=by omega
   have hBs:=(hRb _ hRw).size;cases hp:GC l s id k
   ·rw[hp] at HSp
    go_wp2_with (at_builtin;refine CG (p:=⟨s,id⟩) rfl _ _ rfl HG.out Hsk.out (by have:=Hl2.out;omega) hBs rfl rfl (by first|rfl|simp) ?_);intro v' w5 hG5 hu5;have hR5:=HH.out _ hRw w5 _ hu5 (fun g hg=>(HG.out.block hg).1);have HG5:=zh hG5;obtain⟨pv,hpv⟩:∃p:Option Addr×Nat×Nat,v'=.slice p.1 p.2.1 p.2.2:=let⟨a,c,h⟩:=hG5.shape;⟨(a,_,c),h⟩;clear hG5 hu5;subst hpv;go_wp2_with fail;go_ret;have hl3:=Hl2.out;refine⟨_,rfl,?_,hRb _ hR5⟩;rw[←HSp.out];exact(HG5.out.refs (by simp only[List.length_append,List.length_singleton];omega)).weaken fun _ h=>h.1
   ·rw[hp] at HSp
    go_wp2_with fail;go_ret;have hl3:=Hl2.out;refine⟨_,rfl,?_,hRb _ hRw⟩;rw[←HSp.out];simp only[if_true,List.append_nil];exact(HG.out.refs (by omega)).weaken fun _ h=>h.1
end Go.Proofs.YtgbnlmplkealdaaGreatDoor
