
/- Walks: refs moved: put, move. -/
import Derived.Test.YtgbnlmplkealdaaGreatDoorC10
import Derived.Test.YtgbnlmplkealdaaGreatDoorC11
set_option linter.all false
set_option maxHeartbeats 8000000
set_option maxRecDepth 100000
namespace Go.Proofs.YtgbnlmplkealdaaGreatDoor
open Go.RowKit
variable [Ghost]
theorem Oo {B J:Nat} {ov:Value} {force:Bool} {l:List Rf} {w:World} (hM:Et B J ov force w l) (ha:KG l) (r:Rf) (hrk:Ra r) (hl:l.length≤900) (hB:B≤J):
  Calls Tryz.prog 183 #[.pointer (some ⟨J,0,none⟩),.agg #[.string r.name,.int .i64 r.id]] w
   fun e w'=>e=.returned (.tuple #[])∧Et B J ov force w' (Db r l)∧Below B w w':=by
 obtain⟨v,hG,hvJ,hcJ⟩:=hM;obtain⟨va,vc,rfl⟩:=hG.shape;have hJw:=lt_of_block hcJ;obtain⟨Q,hQ,hQ1,hy⟩:=BO w #[.string r.name,.int .i64 r.id] 86;have y0:=hy 0 _ rfl;have y1:=hy 1 _ rfl;clear hy;have hQb:=hQ.below;have hQn:=hQ.next
 have hQg:=BI hQ;have cJ:=fun x (hx:In Q x)=>Aa (w:=x) (j:=0) ((hQb x hx).block _ hJw|>.trans hcJ) rfl
 have Hs:=zh (fun x (hx:In Q x)=>SA l _ _ r.name x ((hG.any (by omega)).below (hQb _ hx)) ha);have hlo:=ZQ l r.name;have HI:=zh (YZ l r);generalize Zc l r.name=k at*;have HG:=zh hG;have HcJ:=zh hcJ;have Hrk:=zh hrk;clear hG hcJ ha hrk
 go_enter Tryz.func183, Tryz.ntmps183
 go_wp2_with fail;refine wp_region_quiet_below (by kernel_rfl) (by kernel_rfl) ?_
 repeat (first|go_big_quiet_skip|quiet_step (exact Calls.regrown_of (Hs.out _ (hQg _ _ _ hQ1))))
 refine wpQuiet_nil ?_;intro _ hw';obtain⟨⟨dq,osq⟩,hw''⟩:=hw';subst hw'';have hQ2:=hQg _ dq osq hQ1;generalize Go.Sort.grow (redrawn _ dq) osq=w5 at*;go_wp2_with fail;have hQ0:=hQ.drew _ hQ2;refine Du (by kernel_rfl) rfl ?_;generalize w5.drew=x0 at*;refine tk0 0 (.pointer (some ⟨J,0,none⟩)) (fun w=>?_) ?_
 ·go_simp
 simp only[tkS];refine tk0 1 (.pointer (some ⟨J,0,none⟩)) (fun w=>?_) ?_
 ·go_simp
 simp only[tkS];refine tk0 2 (.pointer (some ⟨J,0,none⟩)) (fun w=>?_) ?_
 ·go_simp
 simp only[tkS];refine tk0 3 (.pointer (some ⟨J,0,none⟩)) (fun w=>?_) ?_
 ·go_simp
 simp only[tkS];refine tk0 5 (.int .i64 (k:Int)) (fun w=>?_) ?_
 ·go_simp
 simp only[tkS];have z0:=y0 _ hQ0;have z1:=y1 _ hQ0;have zJ:=cJ _ hQ0;have hin:=NP (i:=k) (HG.out.below (hQb _ hQ0)) Hrk.out (show l.length≤1000 by omega) (show B≤x0.heap.size by have:=(hQb _ hQ0).size;omega) hlo rfl;rw[HI.out] at hin;have Hin:=zh hin;have HE:=zh (fun w9 v' hG9 hu9 hat9=>PO (v':=v') hB hJw HG.out hvJ HcJ.out (hQb _ hQ0) (w9:=w9) (m:=Db r l) hG9 hu9 hat9);have HJ9:=zh (fun w9 (hu9:AK (fun b=>(Value.slice va l.length vc).ownBlock=some b) x0 w9)=>hu9.blk (((hQb _ hQ0).block _ hJw).trans HcJ.out) hvJ);have hzJ:=fun(o:Go.Obj)=>cJ _ (hQ.alloc _ o hQ0)
 have hz0:=fun(o:Go.Obj)=>y0 _ (hQ.alloc _ o hQ0)
 have hz1:=fun(o:Go.Obj)=>y1 _ (hQ.alloc _ o hQ0)
 clear hin hQ1 hQ2 Hs;refine ET 4 6 (by kernel_rfl) (Eo rfl (by rfl) (fun K hK=>?_)) (Eo rfl (by rfl) (fun K hK=>?_))
 ·go_wp2_with fail
  refine tk1 6 (fun K hK=>?_);go_wp2_with fail;refine tk1 7 (fun K hK=>?_);go_wp2_with fail;refine tk1 8 (fun K hK=>?_);go_wp2_with fail;refine Hin.out.mono ?_;rintro e w9 ⟨v',rfl,hG9,hu9,hat9⟩;have Hend:=zh (HE.out _ _ hG9 hu9 hat9);have hJ9:=HJ9.out _ hu9;have cJ9:=Aa (j:=0) hJ9 rfl;have fJ9:=Ad (j:=0) hJ9;obtain⟨⟨va9,vc9⟩,hv9⟩:∃p:Option Addr×Nat,v'=.slice p.1 (Db r l).length p.2:=by
   obtain⟨a,c,h⟩:=hG9.shape;exact⟨(a,c),h⟩
  subst hv9;clear hG9 hu9 hat9 hJ9;go_wp2_with fail;refine tk1 9 (fun K hK=>?_);go_wp2_with fail;refine tk1 10 (fun K hK=>?_);go_wp2_with fail;refine tk1 11 (fun K hK=>?_);go_wp2_with fail;refine BN (by kernel_rfl) ?_;go_wp2_with fail;go_end0;exact⟨rfl,Hend.out⟩
 ·go_wp2_with fail
  refine ET 4 7 (by kernel_rfl) (Eo rfl (by rfl) (fun K hK=>?_)) (Eo rfl (by rfl) (fun K hK=>?_))
  ·go_wp2_with fail
   refine tk1 7 (fun K hK=>?_);go_wp2_with fail;refine tk1 8 (fun K hK=>?_);go_wp2_with fail;refine Hin.out.mono ?_;rintro e w9 ⟨v',rfl,hG9,hu9,hat9⟩;have Hend:=zh (HE.out _ _ hG9 hu9 hat9);have hJ9:=HJ9.out _ hu9;have cJ9:=Aa (j:=0) hJ9 rfl;have fJ9:=Ad (j:=0) hJ9;obtain⟨⟨va9,vc9⟩,hv9⟩:∃p:Option Addr×Nat,v'=.slice p.1 (Db r l).length p.2:=by
    obtain⟨a,c,h⟩:=hG9.shape;exact⟨(a,c),h⟩
   subst hv9;clear hG9 hu9 hat9 hJ9;go_wp2_with fail;refine tk1 9 (fun K hK=>?_);go_wp2_with fail;refine tk1 10 (fun K hK=>?_);go_wp2_with fail;refine tk1 11 (fun K hK=>?_);go_wp2_with fail;refine BN (by kernel_rfl) ?_;go_wp2_with fail;go_end0;exact⟨rfl,Hend.out⟩
  ·go_wp2_with fail
   refine tk1 4 (fun K hK=>?_);go_wp2_with fail;refine tk1 8 (fun K hK=>?_);go_wp2_with fail;refine Hin.out.mono ?_;rintro e w9 ⟨v',rfl,hG9,hu9,hat9⟩;have Hend:=zh (HE.out _ _ hG9 hu9 hat9);have hJ9:=HJ9.out _ hu9;have cJ9:=Aa (j:=0) hJ9 rfl;have fJ9:=Ad (j:=0) hJ9;obtain⟨⟨va9,vc9⟩,hv9⟩:∃p:Option Addr×Nat,v'=.slice p.1 (Db r l).length p.2:=by
    obtain⟨a,c,h⟩:=hG9.shape;exact⟨(a,c),h⟩
   subst hv9;clear hG9 hu9 hat9 hJ9;go_wp2_with fail;refine tk1 9 (fun K hK=>?_);go_wp2_with fail;refine tk1 10 (fun K hK=>?_);go_wp2_with fail;refine tk1 11 (fun K hK=>?_);go_wp2_with fail;refine BN (by kernel_rfl) ?_;go_wp2_with fail;go_end0;exact⟨rfl,Hend.out⟩
theorem Ai.low {B:Nat} {w w':World} {v:Value} {l:List Obj} (h:Ai (fun b=>b<B) w v l) (hb:Below B w w'):Ai (fun b=>b<B) w' v l:=
 h.same fun b hS=>hb.block b hS
theorem Za {objs:List Obj} (hR:Right objs) {id:Int} (h:AC objs id≠0):id≠0:=by
 intro e;subst e;unfold AC at h;cases hf:objs.find? (fun o=>o.id==0) with
 |none=>rw[hf] at h;exact h rfl
 |some o=>
  have h1:=List.find?_some hf;obtain⟨i,hi,rfl⟩:=Io (List.mem_of_find?_eq_some hf);have h2:=Fb (hR.each i hi);have h3:(obj objs i).id=0:=by simpa using h1
  omega
theorem Gu {l:List Rf} {objs:List Obj} {u:Mv} {force:Bool} (h:CR l u.name≠u.old):Cy l objs u force=4:=by unfold Cy;rw[if_pos h]
theorem Ir {l:List Rf} {objs:List Obj} {u:Mv} {force:Bool} (h:CR l u.name=u.old) (hn:u.new=0):Cy l objs u force=0:=by unfold Cy;rw[if_neg (by simp[h]),if_pos hn]
theorem FO {l:List Rf} {objs:List Obj} {u:Mv} {force:Bool} (h:CR l u.name=u.old) (hn:u.new≠0) (hc:AH objs u.new≠0):Cy l objs u force=AH objs u.new:=by unfold Cy;rw[if_neg (by simp[h]),if_neg hn,if_pos hc]
theorem Jo {l:List Rf} {objs:List Obj} {u:Mv} {force:Bool} (h:CR l u.name=u.old) (hn:u.new≠0) (hc:AH objs u.new=0) (hb:u.old≠0∧force=false∧Dj objs u.old u.new=false):Cy l objs u force=4:=by
 unfold Cy;rw[if_neg (by simp[h]),if_neg hn,if_neg (by simp[hc]),if_pos hb]
theorem EP {l:List Rf} {objs:List Obj} {u:Mv} {force:Bool} (h:CR l u.name=u.old) (hn:u.new≠0) (hc:AH objs u.new=0) (hb:¬(u.old≠0∧force=false∧Dj objs u.old u.new=false)):Cy l objs u force=0:=by
 unfold Cy;rw[if_neg (by simp[h]),if_neg hn,if_neg (by simp[hc]),if_neg hb]
theorem XJ {B J:Nat} {ov:Value} {force:Bool} {l:List Rf} {objs:List Obj} {w:World} (hM:Et B J ov force w l) (ha:KG l) (hcm:∀r∈l,AC objs r.id=3) (hR:Right objs) (ho:Ai (fun b=>b<B) w ov objs)
  (u:Mv) (hu:Dy u.old∧Dy u.new∧u.name.size≤140737488351232) (hl:l.length≤800) (hB:B≤J):
  Calls Tryz.prog 172 #[.pointer (some ⟨J,0,none⟩),.agg #[.string u.name,.int .i64 u.old,.int .i64 u.new]] w
   fun e w'=>e=.returned (.int .i64 (Cy l objs u force))∧Below B w w'∧(Cy l objs u force=0→Et B J ov force w' (CW l u.name u.new)):=by
 have hM0:=hM;obtain⟨v,hG,hvJ,hcJ⟩:=hM;obtain⟨va,vc,rfl⟩:=hG.shape;obtain⟨oa,oc,rfl⟩:=ho.vshape;have hJw:=lt_of_block hcJ;obtain⟨Q,hQ,hQ1,hy⟩:=BO w #[.string u.name,.int .i64 u.old,.int .i64 u.new] 88;have y0:=hy 0 _ rfl;have y1:=hy 1 _ rfl;have y2:=hy 2 _ rfl;clear hy;have hQb:=hQ.below;have hQn:=hQ.next
 have hQg:=BI hQ;have cJ:=fun x (hx:In Q x)=>Aa (w:=x) (j:=0) ((hQb x hx).block _ hJw|>.trans hcJ) rfl
 have cJ1:=fun x (hx:In Q x)=>Aa (w:=x) (j:=1) ((hQb x hx).block _ hJw|>.trans hcJ) rfl
 have cJ2:=fun x (hx:In Q x)=>Aa (w:=x) (j:=2) ((hQb x hx).block _ hJw|>.trans hcJ) rfl
 have hrv:=hG.any (by omega);have Hf:=zh (fun x (hx:In Q x)=>Xp l _ _ u.name x (hrv.below (hQb _ hx)));have Hlow:=zh (fun x (hx:In Q x)=>(hQb x hx).mono (show B≤w.heap.size by omega));have Hco:=zh (fun x (hx:In Q x)=>Jv objs _ _ u.new x (ho.below (hQb _ hx)) hR.rising);have HME:=zh (fun w9 v' xo (hxo:In Q xo) m hG9 hu9 hat9=>PO (v':=v') (xo:=xo) (w9:=w9) (m:=m) hB hJw hG hvJ hcJ (hQb _ hxo) hG9 hu9 hat9);have HG:=zh hG;have HM:=zh (fun x (hx:In Q x)=>hM0.below (hQb x hx));have HJ9:=zh (fun xo w9 (hxo:In Q xo) (hu9:AK (fun b=>(Value.slice va l.length vc).ownBlock=some b) xo w9)=>hu9.blk (((hQb _ hxo).block _ hJw).trans hcJ) hvJ);have Hrk:=zh (show Ra ⟨u.name,u.new⟩ from⟨hu.2.1,hu.2.2⟩);have Hid0:=zh (show CR l u.name=if CI l u.name=-1 then 0 else(rf l (CI l u.name).toNat).id from rfl);have Hha:=zh ha;clear hM0;by_cases hf:CI l u.name=-1
 ·have Hi0:=zh (show CR l u.name=0 by rw[Hid0.out,if_pos hf])
  have HKN:=zh (Vp hf);have x1:True:=trivial;rw[hf] at Hf;clear hf hcm;by_cases hs:(0:Int)=u.old
  case neg=>
   have HE:=zh (Gu (objs:=objs) (force:=force) (show CR l u.name≠u.old by rw[Hi0.out];exact hs));have HNZ:=zh (show(4:Int)≠0 by decide);have q1:((0:Int) !=u.old)=true:=by simpa using hs
   clear hs
   go_enter Tryz.func172, Tryz.ntmps172
   go_wp2_with fail;refine wp_region_quiet_below (by kernel_rfl) (by kernel_rfl) ?_
   repeat (first|go_big_quiet_skip|quiet_step (exact Calls.regrown_of (Hf.out _ (hQg _ _ _ hQ1))))
   refine wpQuiet_nil ?_;intro _ hw';obtain⟨⟨dq,osq⟩,hw''⟩:=hw';subst hw'';have hQ2:=hQg _ dq osq hQ1;generalize Go.Sort.grow (redrawn _ dq) osq=w2 at*;clear hQ1;have a0:=y0 _ hQ2;have a1:=y1 _ hQ2;have a2:=y2 _ hQ2;have j0:=cJ _ hQ2;have j1:=cJ1 _ hQ2;have j2:=cJ2 _ hQ2;go_wp2_with fail;go_ret;exact⟨Af HE.out.symm,Hlow.out _ hQ2,fun h=>absurd (HE.out.symm.trans h) HNZ.out⟩
  have HI:=zh (Hi0.out.trans hs);have q1:((0:Int) !=u.old)=false:=by simpa using hs
  have HO:=zh hs;clear hs;by_cases hn:u.new=0
  ·have HE:=zh (Ir (objs:=objs) (force:=force) HI.out hn)
   have HS:=zh (show CW l u.name u.new=l by unfold CW;rw[if_pos hn,HKN.out]);have q2:(u.new !=0)=false:=by simpa using hn
   clear hn
   go_enter Tryz.func172, Tryz.ntmps172
   go_wp2_with fail;refine wp_region_quiet_below (by kernel_rfl) (by kernel_rfl) ?_
   repeat (first|go_big_quiet_skip|quiet_step (exact Calls.regrown_of (Hf.out _ (hQg _ _ _ hQ1))))
   refine wpQuiet_nil ?_;intro _ hw';obtain⟨⟨dq,osq⟩,hw''⟩:=hw';subst hw'';have hQ2:=hQg _ dq osq hQ1;generalize Go.Sort.grow (redrawn _ dq) osq=w2 at*;clear hQ1;have a0:=y0 _ hQ2;have a1:=y1 _ hQ2;have a2:=y2 _ hQ2;have j0:=cJ _ hQ2;have j1:=cJ1 _ hQ2;have j2:=cJ2 _ hQ2;go_wp2_with fail;go_ret;exact⟨Af HE.out.symm,Hlow.out _ hQ2,fun _=>by rw[HS.out];exact HM.out _ hQ2⟩
  ·have q2:(u.new !=0)=true:=by simpa using hn
   by_cases hce:AH objs u.new=0
   ·have HE:=zh (EP (force:=force) HI.out hn hce (by rintro⟨h,_⟩;exact h HO.out.symm))
    have HS:=zh (show CW l u.name u.new=Db ⟨u.name,u.new⟩ l by unfold CW;rw[if_neg hn,HKN.out]);rw[hce] at Hco;clear hce hn
    go_enter Tryz.func172, Tryz.ntmps172
    go_wp2_with fail;refine wp_region_quiet_below (by kernel_rfl) (by kernel_rfl) ?_
    repeat (first|go_big_quiet_skip|quiet_step (exact Calls.regrown_of (Hf.out _ (hQg _ _ _ hQ1))))
    refine wpQuiet_nil ?_;intro _ hw';obtain⟨⟨dq,osq⟩,hw''⟩:=hw';subst hw'';have hQ2:=hQg _ dq osq hQ1;generalize Go.Sort.grow (redrawn _ dq) osq=w2 at*;clear hQ1;have a0:=y0 _ hQ2;have a1:=y1 _ hQ2;have a2:=y2 _ hQ2;have j0:=cJ _ hQ2;have j1:=cJ1 _ hQ2;have j2:=cJ2 _ hQ2;go_wp2_with fail;clear a0 a1 a2 j0 j1 j2 x1;refine wp_region_quiet_below (by kernel_rfl) (by kernel_rfl) ?_
    repeat (first|go_big_quiet_skip|quiet_step (exact Calls.regrown_of (Hco.out _ (hQg _ _ _ hQ2))))
    refine wpQuiet_nil ?_;intro _ hw';obtain⟨⟨dq3,osq3⟩,hw''⟩:=hw';subst hw'';have hQ3:=hQg _ dq3 osq3 hQ2;generalize Go.Sort.grow (redrawn _ dq3) osq3=w3 at*;clear hQ2;have a0:=y0 _ hQ3;have a1:=y1 _ hQ3;have a2:=y2 _ hQ3;have j0:=cJ _ hQ3;have j1:=cJ1 _ hQ3;have j2:=cJ2 _ hQ3;go_wp2_with fail;clear a0 a1 a2 j0 j1 j2;refine wp_region_quiet_below (by kernel_rfl) (by kernel_rfl) ?_
    repeat (first|go_big_quiet_skip|quiet_step (fail))
    refine wpQuiet_nil ?_;intro _ hw';obtain⟨⟨dq4,osq4⟩,hw''⟩:=hw';subst hw'';have hQ4:=hQg _ dq4 osq4 hQ3;generalize Go.Sort.grow (redrawn _ dq4) osq4=w4 at*;clear hQ3;have a0:=y0 _ hQ4;have a1:=y1 _ hQ4;have a2:=y2 _ hQ4;have j0:=cJ _ hQ4;have j1:=cJ1 _ hQ4;have j2:=cJ2 _ hQ4;go_wp2_with fail;have Hput:=zh (Oo (HM.out _ hQ4) Hha.out ⟨u.name,u.new⟩ Hrk.out (by omega) hB);refine Hput.out.mono ?_;rintro e w10 ⟨rfl,hM10,hb10⟩;have HX:=zh (And.intro ((Hlow.out _ hQ4).trans hb10) hM10);go_wp2_with fail;go_ret;exact⟨Af HE.out.symm,HX.out.1,fun _=>by rw[HS.out];exact HX.out.2⟩
   ·have HE:=zh (FO (force:=force) HI.out hn hce)
    have HNZ:=zh hce;have q3:(AH objs u.new !=0)=true:=by simpa using hce
    clear hce hn
    go_enter Tryz.func172, Tryz.ntmps172
    go_wp2_with fail;refine wp_region_quiet_below (by kernel_rfl) (by kernel_rfl) ?_
    repeat (first|go_big_quiet_skip|quiet_step (exact Calls.regrown_of (Hf.out _ (hQg _ _ _ hQ1))))
    refine wpQuiet_nil ?_;intro _ hw';obtain⟨⟨dq,osq⟩,hw''⟩:=hw';subst hw'';have hQ2:=hQg _ dq osq hQ1;generalize Go.Sort.grow (redrawn _ dq) osq=w2 at*;clear hQ1;have a0:=y0 _ hQ2;have a1:=y1 _ hQ2;have a2:=y2 _ hQ2;have j0:=cJ _ hQ2;have j1:=cJ1 _ hQ2;have j2:=cJ2 _ hQ2;go_wp2_with fail;clear a0 a1 a2 j0 j1 j2 x1;refine wp_region_quiet_below (by kernel_rfl) (by kernel_rfl) ?_
    repeat (first|go_big_quiet_skip|quiet_step (exact Calls.regrown_of (Hco.out _ (hQg _ _ _ hQ2))))
    refine wpQuiet_nil ?_;intro _ hw';obtain⟨⟨dq3,osq3⟩,hw''⟩:=hw';subst hw'';have hQ3:=hQg _ dq3 osq3 hQ2;generalize Go.Sort.grow (redrawn _ dq3) osq3=w3 at*;clear hQ2;have a0:=y0 _ hQ3;have a1:=y1 _ hQ3;have a2:=y2 _ hQ3;have j0:=cJ _ hQ3;have j1:=cJ1 _ hQ3;have j2:=cJ2 _ hQ3;go_wp2_with fail;go_ret;exact⟨Af HE.out.symm,Hlow.out _ hQ3,fun h=>absurd (HE.out.symm.trans h) HNZ.out⟩
 ·obtain⟨k,hk,hfk,hkn⟩:=GK hf
  have Hi0:=zh (show CR l u.name=(rf l k).id by rw[Hid0.out,if_neg hf,hfk];rfl);have HKW:=zh (QT ha hk hkn);have hk3:=hcm _ (QI hk);have Hwn:=zh (Za hR (show AC objs (rf l k).id≠0 by rw[hk3];decide));have Hk3:=zh hk3;have qw:((rf l k).id !=0)=true:=by simpa using Hwn.out
  rw[hfk] at Hf;obtain⟨a6,n6,c6,HN6,e6,h61,h62,h63,h64,h65⟩:=hrv.open;cases e6;obtain⟨b6,off6,rfl,hb6,k0,k1⟩:=h64 (by omega);have cx:=fun x (hx:In Q x)=>k1 k x hk (hQb x hx)
  have hi1:=zk k;have hi2:(k:Int)<(l.length:Int):=by omega
  have hwk:=Be (n:=(k:Int)+1) (by omega);clear hf hfk hkn hcm hk3 k0 k1 h64 h65 hrv;by_cases hs:(rf l k).id=u.old
  case neg=>
   have HE:=zh (Gu (objs:=objs) (force:=force) (show CR l u.name≠u.old by rw[Hi0.out];exact hs));have HNZ:=zh (show(4:Int)≠0 by decide);have q1:((rf l k).id !=u.old)=true:=by simpa using hs
   clear hs
   go_enter Tryz.func172, Tryz.ntmps172
   go_wp2_with fail;refine wp_region_quiet_below (by kernel_rfl) (by kernel_rfl) ?_
   repeat (first|go_big_quiet_skip|quiet_step (exact Calls.regrown_of (Hf.out _ (hQg _ _ _ hQ1))))
   refine wpQuiet_nil ?_;intro _ hw';obtain⟨⟨dq,osq⟩,hw''⟩:=hw';subst hw'';have hQ2:=hQg _ dq osq hQ1;generalize Go.Sort.grow (redrawn _ dq) osq=w2 at*;clear hQ1;have a0:=y0 _ hQ2;have a1:=y1 _ hQ2;have a2:=y2 _ hQ2;have j0:=cJ _ hQ2;have j1:=cJ1 _ hQ2;have j2:=cJ2 _ hQ2;have x1:=cx _ hQ2;go_wp2_with fail;go_ret;exact⟨Af HE.out.symm,Hlow.out _ hQ2,fun h=>absurd (HE.out.symm.trans h) HNZ.out⟩
  have HI:=zh (Hi0.out.trans hs);have q1:((rf l k).id !=u.old)=false:=by simpa using hs
  have HO:=zh hs;have Hhas:=zh (fun(h3:AC objs u.new=3) x (hx:In Q x)=>YV objs (rf l k).id u.new _ _ x (ho.below (hQb _ hx)) hR (by rw[Hk3.out];decide) h3 hu.2.1);clear hs;by_cases hn:u.new=0
  ·have HE:=zh (Ir (objs:=objs) (force:=force) HI.out hn)
   have HS:=zh (show CW l u.name u.new=Bj l u.name by unfold CW;rw[if_pos hn]);have q2:(u.new !=0)=false:=by simpa using hn
   clear hn
   go_enter Tryz.func172, Tryz.ntmps172
   go_wp2_with fail;refine wp_region_quiet_below (by kernel_rfl) (by kernel_rfl) ?_
   repeat (first|go_big_quiet_skip|quiet_step (exact Calls.regrown_of (Hf.out _ (hQg _ _ _ hQ1))))
   refine wpQuiet_nil ?_;intro _ hw';obtain⟨⟨dq,osq⟩,hw''⟩:=hw';subst hw'';have hQ2:=hQg _ dq osq hQ1;generalize Go.Sort.grow (redrawn _ dq) osq=w2 at*;clear hQ1;have a0:=y0 _ hQ2;have a1:=y1 _ hQ2;have a2:=y2 _ hQ2;have j0:=cJ _ hQ2;have j1:=cJ1 _ hQ2;have j2:=cJ2 _ hQ2;have x1:=cx _ hQ2;go_wp2_with fail;have Hdel:=zh (FH (i:=k) (HG.out.below (hQb _ hQ2)) (by omega) hk);refine Hdel.out.mono ?_;rintro e w9 ⟨v',rfl,hG9,hu9,hat9⟩;rw[HKW.out] at hG9;have HMd:=zh (HME.out _ _ _ hQ2 _ hG9 hu9 (.inl hat9));have hJ9:=HJ9.out _ _ hQ2 hu9;have cJ9:=Aa (j:=0) hJ9 rfl;have fJ9:=Ad (j:=0) hJ9;obtain⟨⟨va9,vc9⟩,hv9⟩:∃p:Option Addr×Nat,v'=.slice p.1 (Bj l u.name).length p.2:=by
    obtain⟨a,c,h⟩:=hG9.shape;exact⟨(a,c),h⟩
   subst hv9;have b0:=hu9.cell a0 (by intro e;have:=(HG.out.block e).2;simp at this);have b1:=hu9.cell a1 (by intro e;have:=(HG.out.block e).2;simp at this);have b2:=hu9.cell a2 (by intro e;have:=(HG.out.block e).2;simp at this);have b0':=(World.cell?_setCell_other w9 ⟨J,0,none⟩ ⟨w.heap.size,0,none⟩ (.slice va9 (Bj l u.name).length vc9) (by intro e;have:=congrArg Addr.block e;simp at this;omega)).trans b0;have b2':=(World.cell?_setCell_other w9 ⟨J,0,none⟩ ⟨w.heap.size,2,none⟩ (.slice va9 (Bj l u.name).length vc9) (by intro e;have:=congrArg Addr.block e;simp at this;omega)).trans b2;clear hG9 hu9 hat9 hJ9 Hdel a0 a1 a2 j0 j1 j2;go_wp2_with fail;go_ret;exact⟨Af HE.out.symm,HMd.out.2,fun _=>by rw[HS.out];exact HMd.out.1⟩
  ·have q2:(u.new !=0)=true:=by simpa using hn
   have HS:=zh (show CW l u.name u.new=Db ⟨u.name,u.new⟩ (Bj l u.name) by unfold CW;rw[if_neg hn]);by_cases hce:AH objs u.new=0
   ·have Hhas3:=zh (Hhas.out (DH.1 hce))
    rw[HO.out] at Hhas3;cases force
    ·cases hbh:Dj objs u.old u.new
     ·have HE:=zh (Jo (force:=false) HI.out hn hce ⟨by rw[←HO.out];exact Hwn.out,rfl,hbh⟩)
      have HNZ:=zh (show(4:Int)≠0 by decide);rw[hbh,←HO.out] at Hhas3;rw[hce] at Hco;clear hce hn hbh
      go_enter Tryz.func172, Tryz.ntmps172
      go_wp2_with fail;refine wp_region_quiet_below (by kernel_rfl) (by kernel_rfl) ?_
      repeat (first|go_big_quiet_skip|quiet_step (exact Calls.regrown_of (Hf.out _ (hQg _ _ _ hQ1))))
      refine wpQuiet_nil ?_;intro _ hw';obtain⟨⟨dq,osq⟩,hw''⟩:=hw';subst hw'';have hQ2:=hQg _ dq osq hQ1;generalize Go.Sort.grow (redrawn _ dq) osq=w2 at*;clear hQ1;have a0:=y0 _ hQ2;have a1:=y1 _ hQ2;have a2:=y2 _ hQ2;have j0:=cJ _ hQ2;have j1:=cJ1 _ hQ2;have j2:=cJ2 _ hQ2;have x1:=cx _ hQ2;go_wp2_with fail;clear a0 a1 a2 j0 j1 j2 x1;refine wp_region_quiet_below (by kernel_rfl) (by kernel_rfl) ?_
      repeat (first|go_big_quiet_skip|quiet_step (exact Calls.regrown_of (Hco.out _ (hQg _ _ _ hQ2))))
      refine wpQuiet_nil ?_;intro _ hw';obtain⟨⟨dq3,osq3⟩,hw''⟩:=hw';subst hw'';have hQ3:=hQg _ dq3 osq3 hQ2;generalize Go.Sort.grow (redrawn _ dq3) osq3=w3 at*;clear hQ2;have a0:=y0 _ hQ3;have a1:=y1 _ hQ3;have a2:=y2 _ hQ3;have j0:=cJ _ hQ3;have j1:=cJ1 _ hQ3;have j2:=cJ2 _ hQ3;go_wp2_with fail;clear a0 a1 a2 j0 j1 j2;refine wp_region_quiet_below (by kernel_rfl) (by kernel_rfl) ?_
      repeat (first|go_big_quiet_skip|quiet_step (exact Calls.regrown_of (Hhas3.out _ (hQg _ _ _ hQ3))))
      refine wpQuiet_nil ?_;intro _ hw';obtain⟨⟨dq4,osq4⟩,hw''⟩:=hw';subst hw'';have hQ4:=hQg _ dq4 osq4 hQ3;generalize Go.Sort.grow (redrawn _ dq4) osq4=w4 at*;clear hQ3;have a0:=y0 _ hQ4;have a1:=y1 _ hQ4;have a2:=y2 _ hQ4;have j0:=cJ _ hQ4;have j1:=cJ1 _ hQ4;have j2:=cJ2 _ hQ4;go_wp2_with fail;go_ret;exact⟨Af HE.out.symm,Hlow.out _ hQ4,fun h=>absurd (HE.out.symm.trans h) HNZ.out⟩
     ·have HE:=zh (EP (force:=false) HI.out hn hce (by rintro⟨_,_,h⟩;rw[hbh] at h;cases h))
      rw[hbh,←HO.out] at Hhas3;rw[hce] at Hco;clear hce hn hbh
      go_enter Tryz.func172, Tryz.ntmps172
      go_wp2_with fail;refine wp_region_quiet_below (by kernel_rfl) (by kernel_rfl) ?_
      repeat (first|go_big_quiet_skip|quiet_step (exact Calls.regrown_of (Hf.out _ (hQg _ _ _ hQ1))))
      refine wpQuiet_nil ?_;intro _ hw';obtain⟨⟨dq,osq⟩,hw''⟩:=hw';subst hw'';have hQ2:=hQg _ dq osq hQ1;generalize Go.Sort.grow (redrawn _ dq) osq=w2 at*;clear hQ1;have a0:=y0 _ hQ2;have a1:=y1 _ hQ2;have a2:=y2 _ hQ2;have j0:=cJ _ hQ2;have j1:=cJ1 _ hQ2;have j2:=cJ2 _ hQ2;have x1:=cx _ hQ2;go_wp2_with fail;clear a0 a1 a2 j0 j1 j2 x1;refine wp_region_quiet_below (by kernel_rfl) (by kernel_rfl) ?_
      repeat (first|go_big_quiet_skip|quiet_step (exact Calls.regrown_of (Hco.out _ (hQg _ _ _ hQ2))))
      refine wpQuiet_nil ?_;intro _ hw';obtain⟨⟨dq3,osq3⟩,hw''⟩:=hw';subst hw'';have hQ3:=hQg _ dq3 osq3 hQ2;generalize Go.Sort.grow (redrawn _ dq3) osq3=w3 at*;clear hQ2;have a0:=y0 _ hQ3;have a1:=y1 _ hQ3;have a2:=y2 _ hQ3;have j0:=cJ _ hQ3;have j1:=cJ1 _ hQ3;have j2:=cJ2 _ hQ3;go_wp2_with fail;clear a0 a1 a2 j0 j1 j2;refine wp_region_quiet_below (by kernel_rfl) (by kernel_rfl) ?_
      repeat (first|go_big_quiet_skip|quiet_step (exact Calls.regrown_of (Hhas3.out _ (hQg _ _ _ hQ3))))
      refine wpQuiet_nil ?_;intro _ hw';obtain⟨⟨dq4,osq4⟩,hw''⟩:=hw';subst hw'';have hQ4:=hQg _ dq4 osq4 hQ3;generalize Go.Sort.grow (redrawn _ dq4) osq4=w4 at*;clear hQ3;have a0:=y0 _ hQ4;have a1:=y1 _ hQ4;have a2:=y2 _ hQ4;have j0:=cJ _ hQ4;have j1:=cJ1 _ hQ4;have j2:=cJ2 _ hQ4;go_wp2_with fail;have Hdel:=zh (FH (i:=k) (HG.out.below (hQb _ hQ4)) (by omega) hk);refine Hdel.out.mono ?_;rintro e w9 ⟨v',rfl,hG9,hu9,hat9⟩;rw[HKW.out] at hG9;have HMd:=zh (HME.out _ _ _ hQ4 _ hG9 hu9 (.inl hat9));have hJ9:=HJ9.out _ _ hQ4 hu9;have cJ9:=Aa (j:=0) hJ9 rfl;have fJ9:=Ad (j:=0) hJ9;obtain⟨⟨va9,vc9⟩,hv9⟩:∃p:Option Addr×Nat,v'=.slice p.1 (Bj l u.name).length p.2:=by
       obtain⟨a,c,h⟩:=hG9.shape;exact⟨(a,c),h⟩
      subst hv9;have b0:=hu9.cell a0 (by intro e;have:=(HG.out.block e).2;simp at this);have b1:=hu9.cell a1 (by intro e;have:=(HG.out.block e).2;simp at this);have b2:=hu9.cell a2 (by intro e;have:=(HG.out.block e).2;simp at this);have b0':=(World.cell?_setCell_other w9 ⟨J,0,none⟩ ⟨w.heap.size,0,none⟩ (.slice va9 (Bj l u.name).length vc9) (by intro e;have:=congrArg Addr.block e;simp at this;omega)).trans b0;have b2':=(World.cell?_setCell_other w9 ⟨J,0,none⟩ ⟨w.heap.size,2,none⟩ (.slice va9 (Bj l u.name).length vc9) (by intro e;have:=congrArg Addr.block e;simp at this;omega)).trans b2;clear hG9 hu9 hat9 hJ9 Hdel a0 a1 a2 j0 j1 j2;go_wp2_with fail;have Hput:=zh (Oo HMd.out.1 (KZ Hha.out _) ⟨u.name,u.new⟩ Hrk.out (show(Bj l u.name).length≤900 by have:=List.length_filter_le (fun r:Rf=>!(r.name.toList==u.name.toList)) l;unfold Bj;omega) hB);refine Hput.out.mono ?_;rintro e w10 ⟨rfl,hM10,hb10⟩;have HX:=zh (And.intro (HMd.out.2.trans hb10) hM10);go_wp2_with fail;go_ret;exact⟨Af HE.out.symm,HX.out.1,fun _=>by rw[HS.out];exact HX.out.2⟩
    ·have HE:=zh (EP (force:=true) HI.out hn hce (by rintro⟨_,h,_⟩;cases h))
     rw[hce] at Hco;clear hce hn
     go_enter Tryz.func172, Tryz.ntmps172
     go_wp2_with fail;refine wp_region_quiet_below (by kernel_rfl) (by kernel_rfl) ?_
     repeat (first|go_big_quiet_skip|quiet_step (exact Calls.regrown_of (Hf.out _ (hQg _ _ _ hQ1))))
     refine wpQuiet_nil ?_;intro _ hw';obtain⟨⟨dq,osq⟩,hw''⟩:=hw';subst hw'';have hQ2:=hQg _ dq osq hQ1;generalize Go.Sort.grow (redrawn _ dq) osq=w2 at*;clear hQ1;have a0:=y0 _ hQ2;have a1:=y1 _ hQ2;have a2:=y2 _ hQ2;have j0:=cJ _ hQ2;have j1:=cJ1 _ hQ2;have j2:=cJ2 _ hQ2;have x1:=cx _ hQ2;go_wp2_with fail;clear a0 a1 a2 j0 j1 j2 x1;refine wp_region_quiet_below (by kernel_rfl) (by kernel_rfl) ?_
     repeat (first|go_big_quiet_skip|quiet_step (exact Calls.regrown_of (Hco.out _ (hQg _ _ _ hQ2))))
     refine wpQuiet_nil ?_;intro _ hw';obtain⟨⟨dq3,osq3⟩,hw''⟩:=hw';subst hw'';have hQ3:=hQg _ dq3 osq3 hQ2;generalize Go.Sort.grow (redrawn _ dq3) osq3=w3 at*;clear hQ2;have a0:=y0 _ hQ3;have a1:=y1 _ hQ3;have a2:=y2 _ hQ3;have j0:=cJ _ hQ3;have j1:=cJ1 _ hQ3;have j2:=cJ2 _ hQ3;go_wp2_with fail;clear a0 a1 a2 j0 j1 j2;refine wp_region_quiet_below (by kernel_rfl) (by kernel_rfl) ?_
     repeat (first|go_big_quiet_skip|quiet_step (fail))
     refine wpQuiet_nil ?_;intro _ hw';obtain⟨⟨dq4,osq4⟩,hw''⟩:=hw';subst hw'';have hQ4:=hQg _ dq4 osq4 hQ3;generalize Go.Sort.grow (redrawn _ dq4) osq4=w4 at*;clear hQ3;have a0:=y0 _ hQ4;have a1:=y1 _ hQ4;have a2:=y2 _ hQ4;have j0:=cJ _ hQ4;have j1:=cJ1 _ hQ4;have j2:=cJ2 _ hQ4;go_wp2_with fail;have Hdel:=zh (FH (i:=k) (HG.out.below (hQb _ hQ4)) (by omega) hk);refine Hdel.out.mono ?_;rintro e w9 ⟨v',rfl,hG9,hu9,hat9⟩;rw[HKW.out] at hG9;have HMd:=zh (HME.out _ _ _ hQ4 _ hG9 hu9 (.inl hat9));have hJ9:=HJ9.out _ _ hQ4 hu9;have cJ9:=Aa (j:=0) hJ9 rfl;have fJ9:=Ad (j:=0) hJ9;obtain⟨⟨va9,vc9⟩,hv9⟩:∃p:Option Addr×Nat,v'=.slice p.1 (Bj l u.name).length p.2:=by
      obtain⟨a,c,h⟩:=hG9.shape;exact⟨(a,c),h⟩
     subst hv9;have b0:=hu9.cell a0 (by intro e;have:=(HG.out.block e).2;simp at this);have b1:=hu9.cell a1 (by intro e;have:=(HG.out.block e).2;simp at this);have b2:=hu9.cell a2 (by intro e;have:=(HG.out.block e).2;simp at this);have b0':=(World.cell?_setCell_other w9 ⟨J,0,none⟩ ⟨w.heap.size,0,none⟩ (.slice va9 (Bj l u.name).length vc9) (by intro e;have:=congrArg Addr.block e;simp at this;omega)).trans b0;have b2':=(World.cell?_setCell_other w9 ⟨J,0,none⟩ ⟨w.heap.size,2,none⟩ (.slice va9 (Bj l u.name).length vc9) (by intro e;have:=congrArg Addr.block e;simp at this;omega)).trans b2;clear hG9 hu9 hat9 hJ9 Hdel a0 a1 a2 j0 j1 j2;go_wp2_with fail;have Hput:=zh (Oo HMd.out.1 (KZ Hha.out _) ⟨u.name,u.new⟩ Hrk.out (show(Bj l u.name).length≤900 by have:=List.length_filter_le (fun r:Rf=>!(r.name.toList==u.name.toList)) l;unfold Bj;omega) hB);refine Hput.out.mono ?_;rintro e w10 ⟨rfl,hM10,hb10⟩;have HX:=zh (And.intro (HMd.out.2.trans hb10) hM10);go_wp2_with fail;go_ret;exact⟨Af HE.out.symm,HX.out.1,fun _=>by rw[HS.out];exact HX.out.2⟩
   ·have HE:=zh (FO (force:=force) HI.out hn hce)
    have HNZ:=zh hce;have q3:(AH objs u.new !=0)=true:=by simpa using hce
    clear hce hn
    go_enter Tryz.func172, Tryz.ntmps172
    go_wp2_with fail;refine wp_region_quiet_below (by kernel_rfl) (by kernel_rfl) ?_
    repeat (first|go_big_quiet_skip|quiet_step (exact Calls.regrown_of (Hf.out _ (hQg _ _ _ hQ1))))
    refine wpQuiet_nil ?_;intro _ hw';obtain⟨⟨dq,osq⟩,hw''⟩:=hw';subst hw'';have hQ2:=hQg _ dq osq hQ1;generalize Go.Sort.grow (redrawn _ dq) osq=w2 at*;clear hQ1;have a0:=y0 _ hQ2;have a1:=y1 _ hQ2;have a2:=y2 _ hQ2;have j0:=cJ _ hQ2;have j1:=cJ1 _ hQ2;have j2:=cJ2 _ hQ2;have x1:=cx _ hQ2;go_wp2_with fail;clear a0 a1 a2 j0 j1 j2 x1;refine wp_region_quiet_below (by kernel_rfl) (by kernel_rfl) ?_
    repeat (first|go_big_quiet_skip|quiet_step (exact Calls.regrown_of (Hco.out _ (hQg _ _ _ hQ2))))
    refine wpQuiet_nil ?_;intro _ hw';obtain⟨⟨dq3,osq3⟩,hw''⟩:=hw';subst hw'';have hQ3:=hQg _ dq3 osq3 hQ2;generalize Go.Sort.grow (redrawn _ dq3) osq3=w3 at*;clear hQ2;have a0:=y0 _ hQ3;have a1:=y1 _ hQ3;have a2:=y2 _ hQ3;have j0:=cJ _ hQ3;have j1:=cJ1 _ hQ3;have j2:=cJ2 _ hQ3;go_wp2_with fail;go_ret;exact⟨Af HE.out.symm,Hlow.out _ hQ3,fun h=>absurd (HE.out.symm.trans h) HNZ.out⟩
end Go.Proofs.YtgbnlmplkealdaaGreatDoor
