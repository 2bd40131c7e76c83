
/- Walks: refs moved: Apply. -/
import Derived.Test.YtgbnlmplkealdaaGreatDoorC13
set_option linter.all false
set_option maxHeartbeats 8000000
set_option maxRecDepth 100000
namespace Go.Proofs.YtgbnlmplkealdaaGreatDoor
open Go.RowKit
variable [Ghost]
theorem Ow {v:Value} {a b:Int} (h:a=b):Ending.returned (.tuple #[v,.int .i64 a])=.returned (.tuple #[v,.int .i64 b]):=by rw[h]
theorem Vi {L:List Rf} {objs:List Obj} (h:∀r∈L,AC objs r.id=3) {s:ByteArray} (hn:CR L s≠0):AC objs (CR L s)=3:=by
 unfold CR at hn⊢;by_cases hf:CI L s=-1
 ·rw[if_pos hf] at hn;exact absurd rfl hn
 ·rw[if_neg hf] at hn⊢
  obtain⟨k,hk,e,_⟩:=GK hf;rw[e];exact h _ (QI hk)
theorem Ty (l:List Rf) (objs:List Obj) (us:List Mv) (force:Bool) (lv ov uv:Value) (S S2 S3:Nat→Prop) (w:World) (h:AB S w lv l) (ho:Ai S2 w ov objs) (hu:AJ S3 w uv us)
  (hcm:∀r∈l,AC objs r.id=3) (hl8:l.length≤100) (hR:Right objs) (hul:us.length≤100):
  Calls Tryz.prog 114 #[lv,ov,uv,.bool force] w fun e w'=>∃v,e=.returned (.tuple #[v,.int .i64 (Ce l objs us force)])∧AB (fun b=>S b∨w.heap.size≤b) w' v (Ey l objs us force)∧Below w.heap.size w w':=by
 have hu':=hu;obtain⟨a,n,cap,HN,rfl,h1,h2,h3,h4⟩:=hu.open;obtain⟨⟨la,lc⟩,rfl⟩:=h.shape;obtain⟨oa,oc,rfl⟩:=ho.vshape;obtain⟨R,hRc,hR1,_⟩:=Av w;have hRb:=hRc.below;have hRn:=hRc.next
 have hRd:=hRc.drewN;have hRa:=hRc.alloc;have HwE:=zh (show Ce l objs us force=if An (BJ l objs us force) us.length=0 then AE (AL l us us.length) objs else An (BJ l objs us force) us.length from rfl);have HwL:=zh (show Ey l objs us force=if Ce l objs us force=0 then AL l us us.length else[] from rfl);have Hbad:=zh (fun k e (hs:An (BJ l objs us force) k=0) (hk:k<n) (he:BJ l objs us force k=e) (hne:e≠0)=>show Ce l objs us force=e∧Ey l objs us force=[] from by
  have h5:=BX hs (by rw[he];exact hne) (show k<us.length by rw[←HN.out];exact hk);have h6:Ce l objs us force=e:=by rw[HwE.out,h5,he,if_neg hne]
  exact⟨h6,by rw[HwL.out,h6,if_neg hne]⟩)
 have H5:=zh (fun k (hk:k<n)=>hu'.each (i:=k) (by rw[←HN.out];exact hk));have Hcm:=zh (fun k hs=>FP (us:=us) (force:=force) hcm k hs);have Hll:=zh (fun k (hk:k≤n)=>show(AL l us k).length≤300 by have:=EX l us k;have:=HN.out;omega);have Hme:=zh (fun k=>show BJ l objs us force k=Cy (AL l us k) objs (mv us k) force from rfl);have Hnx:=zh (fun k=>show AL l us (k+1)=CW (AL l us k) (mv us k).name (mv us k).new from rfl);have h0:=h.weaken (S':=fun b=>S b∨w.heap.size≤b) (fun b hb=>.inl hb);clear hu hcm hu' h
 go_enter Tryz.func114, Tryz.ntmps114
 go_wp2_with fail;go_loopw [10,11] (fun v i wr=>∃(k:Nat) (p:Option Addr×Nat),k≤n∧i=.int .i64 k∧v=.slice p.1 (AL l us k).length p.2∧Hid (AB (fun b=>S b∨w.heap.size≤b) wr v (AL l us k))∧Hid (An (BJ l objs us force) k=0)∧In R wr) (fun _ i _=>n-(intOf i).toNat)
 case atStart=>exact⟨0,(la,lc),by omega,rfl,rfl,h0,rfl,hR1⟩
 obtain⟨k,⟨pa,pc⟩,hk,rfl,hv,HV,Hs,hRw⟩:=hrel;clear hR1 h0;subst hv;by_cases hlt:k<n
 ·obtain⟨b,off,rfl,hb,k0,k1,k2⟩:=h4 (by omega)
  have x0:=k0 k wr hlt (hRb _ hRw);have x1:=k1 k wr hlt (hRb _ hRw);have x2:=k2 k wr hlt (hRb _ hRw);clear h4 k0 k1 k2;have hi1:=zk k;have hi2:(k:Int)<(n:Int):=by omega
  obtain⟨Q,hQ,hQ1,hy⟩:=BO wr #[.string (mv us k).name,.int .i64 (mv us k).old,.int .i64 (mv us k).new] 88;have y0:=hy 0 _ rfl;have y1:=hy 1 _ rfl;have y2:=hy 2 _ rfl;clear hy;have hQR:∀x,In Q x→In R x:=fun x hx=>hRn _ _ hRw (hQ.below x hx)
  have hQd:=hQ.drewN;have hQn:=hQ.next
  have Hb:=zh (fun e he hne=>Hbad.out k e Hs.out hlt ((Hme.out k).trans he) hne);have Hid:=zh (fun x (hx:In Q x)=>Xw (AL l us k) _ _ (mv us k).name x (HV.out.below (hQ.below x hx)));have Hco:=zh (fun x (hx:In Q x)=>IE objs _ _ (mv us k).new x (ho.below (hRb _ (hQR _ hx))));have Hwi:=zh (fun x (hx:In Q x)=>Wg (AL l us k) _ _ (mv us k).name (mv us k).new x (HV.out.below (hQ.below x hx)) ⟨(H5.out k hlt).2.1,(H5.out k hlt).2.2⟩ (by have:=Hll.out k hk;omega));have Hix:=zh (Vi (s:=(mv us k).name) (Hcm.out k Hs.out));have Hib:=zh (fun(ha:AC objs (mv us k).old≠0) (hb:AC objs (mv us k).new≠0) x (hx:In Q x)=>Qx objs (mv us k).old (mv us k).new _ _ x (ho.below (hRb _ (hQR _ hx))) hR ha hb (H5.out k hlt).2.1);have Hnx':=zh (Hnx.out k);have Hsn:=zh (fun he=>Ay Hs.out ((Hme.out k).trans he));clear Hbad Hme Hnx Hcm;generalize hu:mv us k=u at*;generalize hL:AL l us k=L at*;by_cases hs:CR L u.name=u.old
  case neg=>
   have HE:=zh (Gu (objs:=objs) (force:=force) hs);have HNZ:=zh (show(4:Int)≠0 by decide);have q1:(CR L u.name !=u.old)=true:=by simpa using hs
   clear hs;go_wp2_with fail;go_quiet ((go_at_call 143;exact BV (Hid.out _ (hQd _ _ hQ1))));have hQ2:=hQd _ nq hQ1;generalize (World.alloc _ _).drewN nq=w2 at*;have a0:=y0 _ hQ2;have a1:=y1 _ hQ2;have a2:=y2 _ hQ2;clear x0 x1 x2;go_wp2_with fail;go_ret2;exact⟨.slice none 0 0,Ow (Hb.out _ HE.out HNZ.out).1.symm,by rw[(Hb.out _ HE.out HNZ.out).2];exact AB.nil _ _ _ _ (by omega),hRb _ (hQR _ hQ2)⟩
  have HI:=zh hs;have q1:(u.old !=u.old)=false:=by simp
  rw[hs] at Hid Hix;clear hs;by_cases hn:u.new=0
  ·have HE:=zh (Ir (objs:=objs) (force:=force) HI.out hn)
   have q2:(u.new !=0)=false:=by simpa using hn
   clear hn;go_wp2_with fail;go_quiet ((go_at_call 143;exact BV (Hid.out _ (hQd _ _ hQ1))));have hQ2:=hQd _ nq hQ1;generalize (World.alloc _ _).drewN nq=w2 at*;have a0:=y0 _ hQ2;have a1:=y1 _ hQ2;have a2:=y2 _ hQ2;clear x0 x1 x2;go_wp2_with fail;refine(Hwi.out _ hQ2).mono ?_;rintro e w7 ⟨v7,rfl,hv7,hb7⟩;obtain⟨⟨p7,c7⟩,rfl⟩:=hv7.shape;have hQ7:=hQn _ _ hQ2 hb7;have hs7:=(hRb _ (hQR _ hQ2)).size;have HV7:=zh (hv7.weaken (S':=fun b=>S b∨w.heap.size≤b) fun b hb=>.inr (Nat.le_trans hs7 hb));clear hv7 hb7;go_wp2_with fail;go_roundw
   case rel=>exact⟨k+1,(p7,c7),by omega,by go_num,by rw[Hnx'.out],by rw[Hnx'.out];exact HV7.out,Hsn.out HE.out,hQR _ hQ7⟩
   case measure=>simp[intOf];omega
  ·have q2:(u.new !=0)=true:=by simpa using hn
   by_cases hce:AH objs u.new=0
   ·have hk3:=DH.1 hce
    rw[hce] at Hco;by_cases hold:u.old=0
    ·have HE:=zh (EP (force:=force) HI.out hn hce (by rintro⟨h,_⟩;exact h hold))
     have q4:(u.old !=0)=false:=by simpa using hold
     clear hn hce hold;go_wp2_with fail;go_quiet ((go_at_call 143;exact BV (Hid.out _ (hQd _ _ hQ1))));have hQ2:=hQd _ nq hQ1;generalize (World.alloc _ _).drewN nq=w2 at*;have a0:=y0 _ hQ2;have a1:=y1 _ hQ2;have a2:=y2 _ hQ2;clear x0 x1 x2;go_wp2_with fail;refine(Hco.out _ hQ2).mono ?_;rintro e w' ⟨rfl,rfl⟩;go_wp2_with fail;refine(Hwi.out _ hQ2).mono ?_;rintro e w7 ⟨v7,rfl,hv7,hb7⟩;obtain⟨⟨p7,c7⟩,rfl⟩:=hv7.shape;have hQ7:=hQn _ _ hQ2 hb7;have hs7:=(hRb _ (hQR _ hQ2)).size;have HV7:=zh (hv7.weaken (S':=fun b=>S b∨w.heap.size≤b) fun b hb=>.inr (Nat.le_trans hs7 hb));clear hv7 hb7;go_wp2_with fail;go_roundw
     case rel=>exact⟨k+1,(p7,c7),by omega,by go_num,by rw[Hnx'.out],by rw[Hnx'.out];exact HV7.out,Hsn.out HE.out,hQR _ hQ7⟩
     case measure=>simp[intOf];omega
    ·have Hib2:=zh (Hib.out (by rw[Hix.out hold];decide) (by rw[hk3];decide))
     have q4:(u.old !=0)=true:=by simpa using hold
     cases force
     ·cases hbh:Dj objs u.old u.new
      ·have HE:=zh (Jo (force:=false) HI.out hn hce ⟨hold,rfl,hbh⟩)
       have HNZ:=zh (show(4:Int)≠0 by decide);rw[hbh] at Hib2;clear hn hce hold hbh;go_wp2_with fail;go_quiet ((go_at_call 143;exact BV (Hid.out _ (hQd _ _ hQ1))));have hQ2:=hQd _ nq hQ1;generalize (World.alloc _ _).drewN nq=w2 at*;have a0:=y0 _ hQ2;have a1:=y1 _ hQ2;have a2:=y2 _ hQ2;clear x0 x1 x2;go_wp2_with fail;refine(Hco.out _ hQ2).mono ?_;rintro e w' ⟨rfl,rfl⟩;go_wp2_with fail;refine(Hib2.out _ hQ2).mono ?_;rintro e w6 ⟨rfl,hb6⟩;have hQ6:=hQn _ _ hQ2 hb6;clear hb6 a0 a1 a2;have a0:=y0 _ hQ6;have a1:=y1 _ hQ6;have a2:=y2 _ hQ6;go_wp2_with fail;go_ret2;exact⟨.slice none 0 0,Ow (Hb.out _ HE.out HNZ.out).1.symm,by rw[(Hb.out _ HE.out HNZ.out).2];exact AB.nil _ _ _ _ (by omega),hRb _ (hQR _ hQ6)⟩
      ·have HE:=zh (EP (force:=false) HI.out hn hce (by rintro⟨_,_,h⟩;rw[hbh] at h;cases h))
       rw[hbh] at Hib2;clear hn hce hold hbh;go_wp2_with fail;go_quiet ((go_at_call 143;exact BV (Hid.out _ (hQd _ _ hQ1))));have hQ2:=hQd _ nq hQ1;generalize (World.alloc _ _).drewN nq=w2 at*;have a0:=y0 _ hQ2;have a1:=y1 _ hQ2;have a2:=y2 _ hQ2;clear x0 x1 x2;go_wp2_with fail;refine(Hco.out _ hQ2).mono ?_;rintro e w' ⟨rfl,rfl⟩;go_wp2_with fail;refine(Hib2.out _ hQ2).mono ?_;rintro e w6 ⟨rfl,hb6⟩;have hQ6:=hQn _ _ hQ2 hb6;clear hb6 a0 a1 a2;have a0:=y0 _ hQ6;have a1:=y1 _ hQ6;have a2:=y2 _ hQ6;go_wp2_with fail;refine(Hwi.out _ hQ6).mono ?_;rintro e w7 ⟨v7,rfl,hv7,hb7⟩;obtain⟨⟨p7,c7⟩,rfl⟩:=hv7.shape;have hQ7:=hQn _ _ hQ6 hb7;have hs7:=(hRb _ (hQR _ hQ6)).size;have HV7:=zh (hv7.weaken (S':=fun b=>S b∨w.heap.size≤b) fun b hb=>.inr (Nat.le_trans hs7 hb));clear hv7 hb7;go_wp2_with fail;go_roundw
       case rel=>exact⟨k+1,(p7,c7),by omega,by go_num,by rw[Hnx'.out],by rw[Hnx'.out];exact HV7.out,Hsn.out HE.out,hQR _ hQ7⟩
       case measure=>simp[intOf];omega
     ·have HE:=zh (EP (force:=true) HI.out hn hce (by rintro⟨_,h,_⟩;cases h))
      clear hn hce hold;go_wp2_with fail;go_quiet ((go_at_call 143;exact BV (Hid.out _ (hQd _ _ hQ1))));have hQ2:=hQd _ nq hQ1;generalize (World.alloc _ _).drewN nq=w2 at*;have a0:=y0 _ hQ2;have a1:=y1 _ hQ2;have a2:=y2 _ hQ2;clear x0 x1 x2;go_wp2_with fail;refine(Hco.out _ hQ2).mono ?_;rintro e w' ⟨rfl,rfl⟩;go_wp2_with fail;refine(Hwi.out _ hQ2).mono ?_;rintro e w7 ⟨v7,rfl,hv7,hb7⟩;obtain⟨⟨p7,c7⟩,rfl⟩:=hv7.shape;have hQ7:=hQn _ _ hQ2 hb7;have hs7:=(hRb _ (hQR _ hQ2)).size;have HV7:=zh (hv7.weaken (S':=fun b=>S b∨w.heap.size≤b) fun b hb=>.inr (Nat.le_trans hs7 hb));clear hv7 hb7;go_wp2_with fail;go_roundw
      case rel=>exact⟨k+1,(p7,c7),by omega,by go_num,by rw[Hnx'.out],by rw[Hnx'.out];exact HV7.out,Hsn.out HE.out,hQR _ hQ7⟩
      case measure=>simp[intOf];omega
   ·have HE:=zh (FO (force:=force) HI.out hn hce)
    have HNZ:=zh hce;have q3:(AH objs u.new !=0)=true:=by simpa using hce
    have q5:(AH objs u.new==0)=false:=by simpa using hce
    clear hn hce;go_wp2_with fail;go_quiet ((go_at_call 143;exact BV (Hid.out _ (hQd _ _ hQ1))));have hQ2:=hQd _ nq hQ1;generalize (World.alloc _ _).drewN nq=w2 at*;have a0:=y0 _ hQ2;have a1:=y1 _ hQ2;have a2:=y2 _ hQ2;clear x0 x1 x2;go_wp2_with fail;refine(Hco.out _ hQ2).mono ?_;rintro e w' ⟨rfl,rfl⟩;go_wp2_with fail;go_ret2;exact⟨.slice none 0 0,Ow (Hb.out _ HE.out HNZ.out).1.symm,by rw[(Hb.out _ HE.out HNZ.out).2];exact AB.nil _ _ _ _ (by omega),hRb _ (hQR _ hQ2)⟩
 ·obtain rfl:k=n:=by omega
  have hs0:=Hs.out;rw[HN.out] at hs0;have HwE2:=zh (show Ce l objs us force=AE (AL l us k) objs by rw[HwE.out,if_pos hs0,HN.out]);have HwL2:=zh (show Ey l objs us force=if Ce l objs us force=0 then AL l us k else[] by rw[HwL.out,HN.out]);have Hcr:=zh (IY (AL l us k) objs _ _ _ _ wr HV.out (ho.below (hRb _ hRw)));clear hs0 HwE HwL;by_cases hz:AE (AL l us k) objs=0
  ·have q6:(AE (AL l us k) objs !=0)=false:=by simpa using hz
   have HL:=zh (show Ce l objs us force=0∧Ey l objs us force=AL l us k by rw[HwL2.out,HwE2.out,if_pos hz];exact⟨hz,rfl⟩);rw[hz] at Hcr;clear hz;go_wp2_with fail;refine Hcr.out.mono ?_;rintro e w7 ⟨rfl,hb7⟩;have HX:=zh (And.intro (HV.out.below hb7) (hRb _ (hRn _ _ hRw hb7)));clear hb7;go_wp2_with fail;go_ret2;exact⟨_,Ow HL.out.1.symm,by rw[HL.out.2];exact HX.out.1,HX.out.2⟩
  ·have q6:(AE (AL l us k) objs !=0)=true:=by simpa using hz
   have HL:=zh (show Ce l objs us force=AE (AL l us k) objs∧Ey l objs us force=[] by rw[HwL2.out,HwE2.out,if_neg hz];exact⟨rfl,rfl⟩);clear hz;go_wp2_with fail;refine Hcr.out.mono ?_;rintro e w7 ⟨rfl,hb7⟩;have HX:=zh (hRb _ (hRn _ _ hRw hb7));clear hb7;go_wp2_with fail;go_ret2;exact⟨.slice none 0 0,Ow HL.out.1.symm,by rw[HL.out.2];exact AB.nil _ _ _ _ (by omega),HX.out⟩
theorem SS (l:List Rf) (objs:List Obj) (us:List Mv) (force:Bool) (lv ov uv:Value) (S S2 S3:Nat→Prop) (w:World) (h:AB S w lv l) (ho:Ai S2 w ov objs) (hu:AJ S3 w uv us):
  Calls Tryz.prog 85 #[lv,ov,uv,.bool force] w fun e w'=>∃v,e=.returned (.tuple #[v,.int .i64 (CQ l objs us force)])∧AB (fun b=>S b∨w.heap.size≤b) w' v (Ei l objs us force)∧Below w.heap.size w w':=by
 have Hc:=zh (JV l objs _ _ _ _ w h ho);have Hm:=zh (fun x (hx:Below w.heap.size w x)=>GI us _ _ x (hu.below hx));have Hr:=zh (fun hcm hl8 hR hul x (hx:Below w.heap.size w x)=>Ty l objs us force _ _ _ _ _ _ x (h.below hx) (ho.below hx) (hu.below hx) hcm hl8 hR hul);have HwE:=zh (show CQ l objs us force=if Ap l objs≠0 then Ap l objs else if AP us≠0 then AP us else Ce l objs us force from rfl);have HwL:=zh (show Ei l objs us force=if CQ l objs us force=0 then AL l us us.length else[] from rfl);have HwM:=zh (show Ey l objs us force=if Ce l objs us force=0 then AL l us us.length else[] from rfl);obtain⟨⟨la,lc⟩,rfl⟩:=h.shape;obtain⟨⟨ua,uc⟩,rfl⟩:=hu.shape;obtain⟨oa,oc,rfl⟩:=ho.vshape;clear h ho hu;by_cases hz:Ap l objs=0
 ·have hz1:=Bz.1 hz
  rw[if_neg (by simp[hz])] at HwE;rw[hz] at Hc;clear hz;by_cases hz2:AP us=0
  ·have h2:=(Jp.1 hz2).many
   have Hr2:=zh (Hr.out (fun r hr=>by obtain⟨i,hi,rfl⟩:=Ma hr;exact hz1.2.commit i hi) (by have:=hz1.2.many;omega) (GR hz1.1) (by omega));rw[if_neg (by simp[hz2])] at HwE;have HX:=zh (show Ei l objs us force=Ey l objs us force by rw[HwL.out,HwM.out,HwE.out]);rw[hz2] at Hm;rw[HX.out,HwE.out];clear hz2 h2 hz1 Hr HwE HwL HwM
   go_enter Tryz.func85, Tryz.ntmps85
   go_wp2_with fail;refine Hc.out.mono ?_;rintro e w1 ⟨rfl,hb1⟩;go_wp2_with fail;refine(Hm.out _ hb1).mono ?_;rintro e w2 ⟨rfl,hb2⟩;have hb3:=Al hb1 hb2;go_wp2_with fail;refine(Hr2.out _ hb3).mono ?_;rintro e w4 ⟨v4,rfl,hv4,hb4⟩;obtain⟨⟨p4,c4⟩,rfl⟩:=hv4.shape;have hs4:=hb3.size;have HY:=zh (And.intro (hv4.weaken (S':=fun b=>S b∨w.heap.size≤b) (fun b hb=>hb.imp id (fun h=>Nat.le_trans hs4 h))) (Al hb3 hb4));clear hv4 hb4 hb3 hb1 hb2;go_wp2_with fail;go_ret2;exact⟨_,rfl,HY.out.1,HY.out.2⟩
  ·have q2:(AP us==0)=false:=by simpa using hz2
   have q3:(AP us !=0)=true:=by simpa using hz2
   rw[if_pos hz2] at HwE;have HX:=zh (show Ei l objs us force=[] by rw[HwL.out,HwE.out,if_neg hz2]);rw[HX.out,HwE.out];clear hz2 hz1 Hr HwE HwL HwM
   go_enter Tryz.func85, Tryz.ntmps85
   go_wp2_with fail;refine Hc.out.mono ?_;rintro e w1 ⟨rfl,hb1⟩;go_wp2_with fail;refine(Hm.out _ hb1).mono ?_;rintro e w2 ⟨rfl,hb2⟩;have HY:=zh (Al hb1 hb2);clear hb1 hb2;go_wp2_with fail;go_ret2;exact⟨_,rfl,AB.nil _ _ _ _ (by omega),HY.out⟩
 ·have q2:(Ap l objs==0)=false:=by simpa using hz
  have q3:(Ap l objs !=0)=true:=by simpa using hz
  rw[if_pos hz] at HwE;have HX:=zh (show Ei l objs us force=[] by rw[HwL.out,HwE.out,if_neg hz]);rw[HX.out,HwE.out];clear hz Hr HwE HwL HwM
  go_enter Tryz.func85, Tryz.ntmps85
  go_wp2_with fail;refine Hc.out.mono ?_;rintro e w1 ⟨rfl,hb1⟩;go_wp2_with fail;go_ret2;exact⟨_,rfl,AB.nil _ _ _ _ (by omega),hb1⟩
def FT (a b:Rf):Bool:=(a.name.toList==b.name.toList) && (a.id==b.id)
theorem OB (a b:Rf):FT a b=true↔a=b:=by
 unfold FT;rw[BL];simp only[Bool.and_eq_true,decide_eq_true_eq,beq_iff_eq];constructor
 ·rintro⟨h1,h2⟩;cases a;cases b;simp_all
 ·rintro rfl;simp
theorem Oy (a b:Rf) (w:World):(binOp .neq 86 (.agg #[.string a.name,.int .i64 a.id]) (.agg #[.string b.name,.int .i64 b.id])).run Tryz.prog w=.ok (.bool !FT a b) w:=by
 have hS:Tryz.prog.underlying 86=some (.struct (Tryz.prog.fieldsOf 86)):=by kernel_rfl
 have hp:Tryz.prog.stoodInHeld 86=false:=by kernel_rfl
 have u9:=Tryz.underlying9;have u3:=Tryz.underlying3;rw[run_neq_struct,show(10000:Nat)=9999+1 from rfl,run_equalIn_agg w 9999 86 _ _ hS hp];simp only[Program.fieldsOf,Tryz.underlying86];unfold FT;go_simp;by_cases h1:a.name.toList=b.name.toList<;>by_cases h2:a.id=b.id<;>simp[h1,h2]
def BF (xs ys:List Rf):Bool:=decide (xs.length=ys.length) && (List.range xs.length).all fun k=>FT (rf xs k) (rf ys k)
theorem ED (xs ys:List Rf):BF xs ys=true↔xs=ys:=by
 unfold BF;simp only[Bool.and_eq_true,decide_eq_true_eq,List.all_eq_true,List.mem_range,OB];constructor
 ·rintro⟨h1,h2⟩
  apply List.ext_getElem h1
  intro i hi hi2;have:=h2 i hi
  rwa [DB hi,DB hi2] at this
 ·rintro rfl;exact⟨rfl,fun _ _=>rfl⟩
theorem Ls {xs ys:List Rf} (h:xs.length≠ys.length):BF xs ys=false:=by unfold BF;simp[h]
theorem MF {xs ys:List Rf} {k:Nat} (hk:k<xs.length) (h:FT (rf xs k) (rf ys k)=false):BF xs ys=false:=by
 cases e:BF xs ys
 ·rfl
 ·rw[ED] at e
  subst e;rw[(OB _ _).2 rfl] at h;cases h
theorem Lq {xs ys:List Rf} (hl:xs.length=ys.length) (h:∀k,k<xs.length→FT (rf xs k) (rf ys k)=true):BF xs ys=true:=by
 unfold BF;simp only[Bool.and_eq_true,decide_eq_true_eq,List.all_eq_true,List.mem_range];exact⟨hl,h⟩
theorem Lr (xs ys:List Rf) (v v':Value) (S S':Nat→Prop) (w:World) (h1:AB S w v xs) (h2:AB S' w v' ys):
  Calls Tryz.prog 32 #[v,v'] w fun e w'=>e=.returned (.bool (BF xs ys))∧Below w.heap.size w w':=by
 obtain⟨a,n,cap,HN,rfl,hc1,hc2,hc8,hc,_⟩:=h1.open;obtain⟨a',n',cap',HN',rfl,hc1',hc2',hc8',hc',_⟩:=h2.open;obtain⟨R,hR,hR1,_⟩:=Av w;have hRb:=hR.below;have hRn:=hR.drewN;by_cases hl:n=n'
 ·subst hl
  have Hall:=zh (Lq (xs:=xs) (ys:=ys) (by rw[←HN.out,←HN'.out]))
  go_enter Tryz.func32, Tryz.ntmps32
  go_wp2;go_loopw [5] (fun i wr=>∃k:Nat,k≤n∧i=.int .i64 k∧Hid (∀j,j<k→FT (rf xs j) (rf ys j)=true)∧In R wr) (fun i _=>n-(intOf i).toNat)
  case atStart=>exact⟨0,by omega,rfl,fun j hj=>absurd hj (by omega),hR1⟩
  obtain⟨k,hk,rfl,Hs,hRw⟩:=hrel;clear hR1;by_cases hlt:k<n
  ·obtain⟨b,off,rfl,hb,k0,k1⟩:=hc (by omega)
   obtain⟨b',off',rfl,hb',k0',k1'⟩:=hc' (by omega);have x0:∀x,In R x→x.cell? ⟨b,off+k*2,none⟩=some (.string (rf xs k).name):=fun x hx=>k0 k x hlt (hRb x hx)
   have x1:∀x,In R x→x.cell? ⟨b,off+k*2+1,none⟩=some (.int .i64 (rf xs k).id):=fun x hx=>k1 k x hlt (hRb x hx)
   have x0':∀x,In R x→x.cell? ⟨b',off'+k*2,none⟩=some (.string (rf ys k).name):=fun x hx=>k0' k x hlt (hRb x hx)
   have x1':∀x,In R x→x.cell? ⟨b',off'+k*2+1,none⟩=some (.int .i64 (rf ys k).id):=fun x hx=>k1' k x hlt (hRb x hx)
   clear hc hc' k0 k1 k0' k1';have hi1:=zk k;have hi2:(k:Int)<(n:Int):=by omega
   have hneq:=Oy (rf xs k) (rf ys k);cases he:FT (rf xs k) (rf ys k)
   ·rw[he] at hneq
    have Hq:=zh (MF (xs:=xs) (ys:=ys) (k:=k) (by rw[←HN.out];exact hlt) he);clear he;go_wp2_with fail;go_quiet (fail);go_wp2;go_ret;exact⟨by rw[Hq.out];rfl,hRb _ (hRn _ _ hRw)⟩
   ·rw[he] at hneq
    have He:=zh he;clear he;go_wp2_with fail;go_quiet (fail);go_wp2;go_roundw
    case rel=>exact⟨k+1,by omega,by go_num,By Hs.out He.out,hRn _ _ hRw⟩
    case measure=>simp[intOf];omega
  ·have Hk:=zh (show BF xs ys=true from Hall.out (fun j hj=>Hs.out j (by have:=HN.out;omega)))
   go_wp2;go_ret;exact⟨by rw[Hk.out];rfl,hRb _ hRw⟩
 ·have Hl:=zh (Ls (xs:=xs) (ys:=ys) (by rw[←HN.out,←HN'.out];exact hl))
  go_enter Tryz.func32, Tryz.ntmps32
  go_wp2;go_ret;exact⟨by rw[Hl.out];rfl,hRb _ hR1⟩
end Go.Proofs.YtgbnlmplkealdaaGreatDoor
