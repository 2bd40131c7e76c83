
/- CluD: walks of CheckCluster, SameCluster, clusterIs. -/
import Derived.Test.YtgbnlmplkealdaaGreatDoorC19
set_option linter.all false
set_option maxHeartbeats 4000000
set_option maxRecDepth 100000
namespace Go.Proofs.YtgbnlmplkealdaaGreatDoor
open Go.RowKit
variable [Ghost]
theorem LM (l:List Am) (v:Value) (S:Nat→Prop) (w:World) (h:Az S w v l):
  Calls Tryz.prog 9 #[.agg #[v]] w fun e w'=>e=.returned (.int .i64 (Bp l))∧Below w.heap.size w w':=by
 have h':=h;obtain⟨a,n,cap,fr,HN,rfl,h1,h2,h3,h4,h5⟩:=h.open;obtain⟨R,hR,hR1,HB0⟩:=AF w [.cells #[.slice a n cap] 24];simp only[List.foldl] at hR1;have hRb:=hR.below;have hRn:=hR.next
 have hCg:=BI hR;have c0:=fun x (hx:In R x)=>Aa (j:=0) (HB0 x hx 0 _ rfl) rfl
 simp only[Nat.add_zero] at c0;clear HB0;by_cases hn3:n=3
 case neg=>
  have cc:=c0 _ hR1;have HE:=zh (Pv (l:=l) (by rw[←HN.out];exact hn3));have hq:((n:Int) !=3)=true:=by simpa using(show(n:Int)≠3 by omega)
  clear hn3 h h'
  go_enter Tryz.func9, Tryz.ntmps9
  go_wp2_with fail;go_ret;exact⟨Af HE.out.symm,hRb _ hR1⟩
 subst hn3;have hl3:l.length=3:=HN.out.symm;have HA:=zh (fun k e h0 (hk:k<3) he hne=>Nq (l:=l) (k:=k) (e:=e) hl3 h0 hk he hne);have HB:=zh (fun k h0 h1 (hk:k<3) hb=>Rm (l:=l) (k:=k) hl3 h0 h1 hk hb);have HF:=zh (fun h0 h1=>Nr (l:=l) hl3 h0 h1);have HM:=zh (show many l=Nv l (Ag l (BS l)).gen 3 by rw[←hl3];exact NZ l);have hbl:BS l<3:=by rw[←hl3];exact GZ (by omega)
 have Hba:=zh (fun i k (hi:i<3) hk h=>WM (l:=l) (i:=i) (k:=k) (by omega) hk h);have Hbn:=zh (fun i (hi:i<3) h=>Uo (l:=l) (i:=i) (by omega) h);have HBe:=zh (fun x (hx:In R x)=>Nl l _ _ x (h'.below (hRb _ hx)));generalize BS l=bl at*;have Hl3:=zh hl3;clear h h' hl3;have cc:=c0 _ hR1
 go_enter Tryz.func9, Tryz.ntmps9
 go_wp2_with fail;clear cc;go_loopw [3] (fun i wr=>∃k:Nat,k≤3∧i=.int .i64 k∧Hid (An (fun i=>Ak (Ag l i)) k=0)∧In R wr) (fun i _=>3-(intOf i).toNat)
 case atStart=>exact⟨0,by omega,rfl,rfl,hR1⟩
 obtain⟨k,hk,rfl,Hs,hRw⟩:=hrel;clear hR1;by_cases hlt:k<3
 ·obtain⟨b,off,rfl,hb,k0,k1,k2,k3,k4,k5,k6⟩:=h4 (by omega)
  have x0:=k0 k wr hlt (hRb _ hRw);have x1:=k1 k wr hlt (hRb _ hRw);have x2:=k2 k wr hlt (hRb _ hRw);have x3:=k3 k wr hlt (hRb _ hRw);have x4:=k4 k wr hlt (hRb _ hRw);have x5:=k5 k wr hlt (hRb _ hRw);have x6:=k6 k wr hlt (hRb _ hRw);have ck:=c0 _ hRw;have hi1:=zk k;have hi2:(k:Int)<(3:Int):=by omega
  have HC:=zh (LN (Ag l k) _ _ _ _ _ _ ((h5 k hlt).below (hRb _ hRw)));simp only[AO] at HC;clear h4 h5 HBe k0 k1 k2 k3 k4 k5 k6;by_cases hz:Ak (Ag l k)=0
  ·have Hz:=zh hz
   rw[hz] at HC;clear hz;go_wp2_with fail;refine HC.out.mono ?_;rintro e w1 ⟨rfl,hb1⟩;have hR3:=hRn _ _ hRw hb1;go_wp2_with fail;go_roundw
   case rel=>exact⟨k+1,by omega,by go_num,Ay Hs.out Hz.out,hR3⟩
   case measure=>simp[intOf];omega
  ·have HE:=zh (HA.out k _ Hs.out hlt rfl hz)
   have hq:(Ak (Ag l k) !=0)=true:=by simpa using hz
   clear hz;generalize Ak (Ag l k)=c at*;go_wp2_with fail;refine HC.out.mono ?_;rintro e w1 ⟨rfl,hb1⟩;have hR3:=hRn _ _ hRw hb1;go_wp2_with fail;go_ret;exact⟨Af HE.out.symm,hRb _ hR3⟩
 ·obtain rfl:k=3:=by omega
  rw[show((3:Nat):Int)=3 from rfl];go_wp2_with fail;go_loopw [5,6] (fun s5 i wx=>∃k:Nat,k≤3∧i=.int .i64 k∧s5=.int .i64 (Nv l (Ag l bl).gen k:Nat)∧Hid (An (Kp l) k=0)∧In R wx) (fun _ i _=>3-(intOf i).toNat)
  case atStart=>exact⟨0,by omega,rfl,rfl,rfl,hRw⟩
  clear hRw;obtain⟨k,hk2,rfl,rfl,Ht,hRx⟩:=hrel;by_cases hlt:k<3
  ·obtain⟨b,off,rfl,hb,k0,k1,k2,k3,k4,k5,k6⟩:=h4 (by omega)
   have Hk1:=zh k1;have Hk2:=zh k2;have Hcn:=zh (show Nv l (Ag l bl).gen (k+1)=Nv l (Ag l bl).gen k+if(Ag l k).gen=(Ag l bl).gen then 1 else 0 from rfl);have hcl:=Tb l (Ag l bl).gen k;generalize Nv l (Ag l bl).gen k=c0n at*;have hi1:=zk k;have hi2:(k:Int)<(3:Int):=by omega
   have z1:∀x,In R x→x.cell? ⟨b,off+k*7+1,none⟩=some (.slice (fr k).ra (Ag l k).refs.length (fr k).rc):=fun x hx=>k1 k x hlt (hRb x hx)
   have z2:∀x,In R x→x.cell? ⟨b,off+k*7+2,none⟩=some (.int .i64 (Ag l k).gen):=fun x hx=>k2 k x hlt (hRb x hx)
   clear h4 k0 k1 k2 k3 k4 k5 k6;go_wp2_with fail;go_loopw [7] (fun i wy=>∃j:Nat,j≤k∧i=.int .i64 j∧Hid (∀i,i<j→IL (Ag l k) (Ag l i)=false)∧In R wy) (fun i _=>k-(intOf i).toNat)
   case atStart=>exact⟨0,by omega,rfl,fun i hi=>absurd hi (by omega),hRx⟩
   clear hRx;obtain⟨j,hj,rfl,Hj,hRy⟩:=hrel;by_cases hlj:j<k
   ·have y1:∀x,In R x→x.cell? ⟨b,off+j*7+1,none⟩=some (.slice (fr j).ra (Ag l j).refs.length (fr j).rc):=fun x hx=>Hk1.out j x (by omega) (hRb x hx)
    have y2:∀x,In R x→x.cell? ⟨b,off+j*7+2,none⟩=some (.int .i64 (Ag l j).gen):=fun x hx=>Hk2.out j x (by omega) (hRb x hx)
    have hj1:=zk j;have hj2:(j:Int)<(3:Int):=by omega
    have HD:=zh (show IL (Ag l k) (Ag l j)=(((Ag l k).gen==(Ag l j).gen) && !BF (Ag l k).refs (Ag l j).refs) from rfl);have HS:=zh (fun x (hx:In R x)=>Lr (Ag l k).refs (Ag l j).refs _ _ _ _ x ((h5 k hlt).refs.below (hRb _ hx)) ((h5 j (by omega)).refs.below (hRb _ hx)));have Hbk:=zh (fun(h:IL (Ag l k) (Ag l j)=true)=>HB.out k Hs.out Ht.out hlt (Hba.out k j hlt hlj h));clear h5 HBe Hba;generalize BF (Ag l k).refs (Ag l j).refs=q at*;cases q2:((Ag l k).gen==(Ag l j).gen)
    ·rw[q2,Bool.false_and] at HD
     have Hn:=zh (By (p:=fun i=>IL (Ag l k) (Ag l i)=false) Hj.out HD.out);go_wp2_with fail;refine wp_region_quiet_below (by kernel_rfl) (by kernel_rfl) ?_
     repeat (first|go_big_quiet_skip|quiet_step (exact Calls.regrown_of (HS.out _ (hCg _ _ _ hRy))))
     refine wpQuiet_nil ?_;intro _ hw';obtain⟨⟨dq,osq⟩,hw''⟩:=hw';subst hw'';have hR3:=hCg _ dq osq hRy;generalize Go.Sort.grow (redrawn _ dq) osq=w3 at*;go_wp2_with fail;go_roundw
     case rel=>exact⟨j+1,by omega,by go_num,Hn.out,hR3⟩
     case measure=>simp[intOf];omega
    ·rw[q2,Bool.true_and] at HD
     cases q
     ·have HE:=zh (Hbk.out (by rw[HD.out];rfl))
      go_wp2_with fail;refine wp_region_quiet_below (by kernel_rfl) (by kernel_rfl) ?_
      repeat (first|go_big_quiet_skip|quiet_step (exact Calls.regrown_of (HS.out _ (hCg _ _ _ hRy))))
      refine wpQuiet_nil ?_;intro _ hw';obtain⟨⟨dq,osq⟩,hw''⟩:=hw';subst hw'';have hR3:=hCg _ dq osq hRy;generalize Go.Sort.grow (redrawn _ dq) osq=w3 at*;go_wp2_with fail;go_ret;exact⟨Af HE.out.symm,hRb _ hR3⟩
     ·have Hn:=zh (By (p:=fun i=>IL (Ag l k) (Ag l i)=false) Hj.out (by rw[HD.out];rfl))
      go_wp2_with fail;refine wp_region_quiet_below (by kernel_rfl) (by kernel_rfl) ?_
      repeat (first|go_big_quiet_skip|quiet_step (exact Calls.regrown_of (HS.out _ (hCg _ _ _ hRy))))
      refine wpQuiet_nil ?_;intro _ hw';obtain⟨⟨dq,osq⟩,hw''⟩:=hw';subst hw'';have hR3:=hCg _ dq osq hRy;generalize Go.Sort.grow (redrawn _ dq) osq=w3 at*;go_wp2_with fail;go_roundw
      case rel=>exact⟨j+1,by omega,by go_num,Hn.out,hR3⟩
      case measure=>simp[intOf];omega
   ·obtain rfl:j=k:=by omega
    have hlb:bl<3:=hbl;have x2:∀x,In R x→x.cell? ⟨b,off+bl*7+2,none⟩=some (.int .i64 (Ag l bl).gen):=fun x hx=>Hk2.out bl x hlb (hRb x hx)
    have Hn:=zh (Rj Ht.out (Hbn.out j hlt Hj.out));have hb1:(0:Int)≤(bl:Int):=by omega
    have hb2:(bl:Int)<(3:Int):=by omega
    have hw1:=Be (n:=(c0n:Int)+1) (by omega);clear h5 Hba Hbn;cases q2:((Ag l j).gen==(Ag l bl).gen)
    ·have Hc2:=zh (show Nv l (Ag l bl).gen (j+1)=c0n by rw[Hcn.out,if_neg (by simpa using q2)];try rfl)
     go_wp2_with fail;refine wp_region_quiet_below (by kernel_rfl) (by kernel_rfl) ?_
     repeat (first|go_big_quiet_skip|quiet_step (exact Calls.regrown_of (HBe.out _ (hCg _ _ _ hRy))))
     refine wpQuiet_nil ?_;intro _ hw';obtain⟨⟨dq,osq⟩,hw''⟩:=hw';subst hw'';have hR3:=hCg _ dq osq hRy;generalize Go.Sort.grow (redrawn _ dq) osq=w3 at*;go_wp2_with fail;go_roundw
     case rel=>exact⟨j+1,by omega,by go_num,by rw[Hc2.out];try first|rfl|simp,Hn.out,hR3⟩
     case measure=>simp[intOf];omega
    ·have Hc2:=zh (show Nv l (Ag l bl).gen (j+1)=c0n+1 by rw[Hcn.out,if_pos (by simpa using q2)];try rfl)
     go_wp2_with fail;refine wp_region_quiet_below (by kernel_rfl) (by kernel_rfl) ?_
     repeat (first|go_big_quiet_skip|quiet_step (exact Calls.regrown_of (HBe.out _ (hCg _ _ _ hRy))))
     refine wpQuiet_nil ?_;intro _ hw';obtain⟨⟨dq,osq⟩,hw''⟩:=hw';subst hw'';have hR3:=hCg _ dq osq hRy;generalize Go.Sort.grow (redrawn _ dq) osq=w3 at*;go_wp2_with fail;go_roundw
     case rel=>exact⟨j+1,by omega,by go_num,by rw[Hc2.out];try first|rfl|simp,Hn.out,hR3⟩
     case measure=>simp[intOf];omega
  ·obtain rfl:k=3:=by omega
   have HE:=zh (HF.out Hs.out Ht.out);rw[HM.out] at HE;have hcl:=Tb l (Ag l bl).gen 3;generalize Nv l (Ag l bl).gen 3=m at*;rw[show((3:Nat):Int)=3 from rfl];by_cases hm:(m:Int)<2
   ·rw[if_pos (by omega)] at HE
    have hd:decide ((m:Int)<2)=true:=decide_eq_true hm;clear hm;go_wp2_with fail;go_ret;exact⟨Af HE.out.symm,hRb _ hRx⟩
   ·rw[if_neg (by omega)] at HE
    have hd:decide ((m:Int)<2)=false:=decide_eq_false hm;clear hm;go_wp2_with fail;go_ret;exact⟨Af HE.out.symm,hRb _ hRx⟩
def EC (a b:List Am):Bool:=decide (a.length=b.length) && (List.range a.length).all fun k=>Eh (Ag a k) (Ag b k)
theorem Sw {a b:List Am} (h:a.length≠b.length):EC a b=false:=by unfold EC;simp[h]
theorem TP {a b:List Am} {k:Nat} (hk:k<a.length) (h:Eh (Ag a k) (Ag b k)=false):EC a b=false:=by
 unfold EC;have:((List.range a.length).all fun k=>Eh (Ag a k) (Ag b k))=false:=by
  rw[List.all_eq_false];exact⟨k,List.mem_range.2 hk,by simp[h]⟩
 rw[this,Bool.and_false]
theorem MC {a b:List Am} (hl:a.length=b.length) (h:∀k,k<a.length→Eh (Ag a k) (Ag b k)=true):EC a b=true:=by
 unfold EC;rw[decide_eq_true hl,Bool.true_and,List.all_eq_true];exact fun k hk=>h k (List.mem_range.1 hk)
theorem Cq (a b:List Am):EC a b=true↔a=b:=by
 constructor
 ·intro h
  unfold EC at h;rw[Bool.and_eq_true,decide_eq_true_eq,List.all_eq_true] at h;refine List.ext_getElem h.1 fun i h1 h2=>?_
  have:=(MG _ _).1 (h.2 i (List.mem_range.2 h1));rw[EA h1,EA h2] at this;exact this
 ·rintro rfl;exact MC rfl fun k _=>(MG _ _).2 rfl
theorem Eg (l m:List Am) (v u:Value) (S S':Nat→Prop) (w:World) (h:Az S w v l) (hm:Az S' w u m):
  Calls Tryz.prog 15 #[.agg #[v],.agg #[u]] w fun e w'=>e=.returned (.bool (EC l m))∧Below w.heap.size w w':=by
 obtain⟨a,n,cap,fr,HN,rfl,h1,h2,h3,h4,h5⟩:=h.open;obtain⟨a',n',cap',fr',HN',rfl,h1',h2',h3',h4',h5'⟩:=hm.open;clear h hm;obtain⟨R,hR,hR1,HB0⟩:=AF w [.cells #[.slice a n cap] 24,.cells #[.slice a' n' cap'] 24];simp only[List.foldl] at hR1;have hRb:=hR.below;have hRn:=hR.next
 have hCg:=BI hR;have c0:=fun x (hx:In R x)=>Aa (j:=0) (HB0 x hx 0 _ rfl) rfl
 have c1:=fun x (hx:In R x)=>Aa (j:=0) (HB0 x hx 1 _ rfl) rfl
 simp only[Nat.add_zero] at c0;clear HB0;by_cases hl:n=n'
 case neg=>
  have HE:=zh (Sw (a:=l) (b:=m) (by rw[←HN.out,←HN'.out];exact hl));have cc:=c0 _ hR1;have cd:=c1 _ hR1;have hq:((n:Int) !=(n':Int))=true:=by simpa using(show(n:Int)≠(n':Int) by omega)
  go_enter Tryz.func15, Tryz.ntmps15
  go_wp2_with fail;go_ret;exact⟨by rw[HE.out];rfl,hRb _ hR1⟩
 subst hl;have Hall:=zh (fun h=>MC (a:=l) (b:=m) (by rw[←HN.out,←HN'.out]) h);have Hat:=zh (fun k (hk:k<n) h=>TP (a:=l) (b:=m) (k:=k) (by rw[←HN.out];exact hk) h);have cc:=c0 _ hR1;have cd:=c1 _ hR1
 go_enter Tryz.func15, Tryz.ntmps15
 go_wp2_with fail;clear cc cd;go_loopw [5] (fun i wr=>∃k:Nat,k≤n∧i=.int .i64 k∧Hid (∀j,j<k→Eh (Ag l j) (Ag m j)=true)∧In R wr) (fun i _=>n-(intOf i).toNat)
 case atStart=>exact⟨0,by omega,rfl,fun j hj=>absurd hj (by omega),hR1⟩
 obtain⟨k,hk,rfl,Hs,hRw⟩:=hrel;clear hR1;have cc:=c0 _ hRw;by_cases hlt:k<n
 ·obtain⟨b,off,rfl,hb,k0,k1,k2,k3,k4,k5,k6⟩:=h4 (by omega)
  obtain⟨b',off',rfl,hb',k0',k1',k2',k3',k4',k5',k6'⟩:=h4' (by omega);have x0:∀x,In R x→x.cell? ⟨b,off+k*7,none⟩=some (.slice (fr k).sa (Ag l k).store.length (fr k).sc):=fun x hx=>k0 k x hlt (hRb x hx)
  have x1:∀x,In R x→x.cell? ⟨b,off+k*7+1,none⟩=some (.slice (fr k).ra (Ag l k).refs.length (fr k).rc):=fun x hx=>k1 k x hlt (hRb x hx)
  have x2:∀x,In R x→x.cell? ⟨b,off+k*7+2,none⟩=some (.int .i64 (Ag l k).gen):=fun x hx=>k2 k x hlt (hRb x hx)
  have x3:∀x,In R x→x.cell? ⟨b,off+k*7+3,none⟩=some (.int .i64 (Ag l k).phase):=fun x hx=>k3 k x hlt (hRb x hx)
  have x4:∀x,In R x→x.cell? ⟨b,off+k*7+4,none⟩=some (.slice (fr k).oa (Ag l k).pend.objects.length (fr k).oc):=fun x hx=>k4 k x hlt (hRb x hx)
  have x5:∀x,In R x→x.cell? ⟨b,off+k*7+5,none⟩=some (.slice (fr k).ua (Ag l k).pend.updates.length (fr k).uc):=fun x hx=>k5 k x hlt (hRb x hx)
  have x6:∀x,In R x→x.cell? ⟨b,off+k*7+6,none⟩=some (.bool (Ag l k).pend.force):=fun x hx=>k6 k x hlt (hRb x hx)
  have u0:∀x,In R x→x.cell? ⟨b',off'+k*7,none⟩=some (Value.slice (fr' k).sa (Ag m k).store.length (fr' k).sc):=fun x hx=>k0' k x hlt (hRb x hx)
  have u1:∀x,In R x→x.cell? ⟨b',off'+k*7+1,none⟩=some (Value.slice (fr' k).ra (Ag m k).refs.length (fr' k).rc):=fun x hx=>k1' k x hlt (hRb x hx)
  have u2:∀x,In R x→x.cell? ⟨b',off'+k*7+2,none⟩=some (Value.int .i64 (Ag m k).gen):=fun x hx=>k2' k x hlt (hRb x hx)
  have u3:∀x,In R x→x.cell? ⟨b',off'+k*7+3,none⟩=some (Value.int .i64 (Ag m k).phase):=fun x hx=>k3' k x hlt (hRb x hx)
  have u4:∀x,In R x→x.cell? ⟨b',off'+k*7+4,none⟩=some (Value.slice (fr' k).oa (Ag m k).pend.objects.length (fr' k).oc):=fun x hx=>k4' k x hlt (hRb x hx)
  have u5:∀x,In R x→x.cell? ⟨b',off'+k*7+5,none⟩=some (Value.slice (fr' k).ua (Ag m k).pend.updates.length (fr' k).uc):=fun x hx=>k5' k x hlt (hRb x hx)
  have u6:∀x,In R x→x.cell? ⟨b',off'+k*7+6,none⟩=some (Value.bool (Ag m k).pend.force):=fun x hx=>k6' k x hlt (hRb x hx)
  have HS:=zh (fun x (hx:In R x)=>Fo (Ag l k) (Ag m k) _ _ _ _ _ _ _ _ _ _ x ((h5 k hlt).below (hRb _ hx)) ((h5' k hlt).below (hRb _ hx)));simp only[AO] at HS;clear h4 h5 h4' h5' k0 k1 k2 k3 k4 k5 k6 k0' k1' k2' k3' k4' k5' k6';have hi1:=zk k;have hi2:(k:Int)<(n:Int):=by omega
  cases he:Eh (Ag l k) (Ag m k)
  ·rw[he] at HS
   have HE:=zh (Hat.out k hlt he);go_wp2_with fail;refine wp_region_quiet_below (by kernel_rfl) (by kernel_rfl) ?_
   repeat (first|go_big_quiet_skip|quiet_step (exact Calls.regrown_of (HS.out _ (hCg _ _ _ hRw))))
   refine wpQuiet_nil ?_;intro _ hw';obtain⟨⟨dq,osq⟩,hw''⟩:=hw';subst hw'';have hR3:=hCg _ dq osq hRw;generalize Go.Sort.grow (redrawn _ dq) osq=w3 at*;go_wp2_with fail;go_ret;exact⟨by rw[HE.out];rfl,hRb _ hR3⟩
  ·rw[he] at HS
   have He:=zh he;go_wp2_with fail;refine wp_region_quiet_below (by kernel_rfl) (by kernel_rfl) ?_
   repeat (first|go_big_quiet_skip|quiet_step (exact Calls.regrown_of (HS.out _ (hCg _ _ _ hRw))))
   refine wpQuiet_nil ?_;intro _ hw';obtain⟨⟨dq,osq⟩,hw''⟩:=hw';subst hw'';have hR3:=hCg _ dq osq hRw;generalize Go.Sort.grow (redrawn _ dq) osq=w3 at*;go_wp2_with fail;go_roundw
   case rel=>exact⟨k+1,by omega,by go_num,By Hs.out He.out,hR3⟩
   case measure=>simp[intOf];omega
 ·obtain rfl:k=n:=by omega
  have HE:=zh (Hall.out (fun j hj=>Hs.out j (by have:=HN.out;omega)));go_wp2_with fail;go_ret;exact⟨by rw[HE.out];rfl,hRb _ hRw⟩
def LP (l:List Am) (e c:Int) (want:List Am):Bool:=(e==c) && EC l (if c=0 then want else[])
theorem OX (l m:List Am) (e c:Int) (v u:Value) (S S':Nat→Prop) (w:World) (h:Az S w v l) (h2:Az S' w u m):
  Calls Tryz.prog 12 #[.agg #[v],.int .i64 e,.int .i64 c,.agg #[u]] w fun en w'=>en=.returned (.bool (LP l e c m))∧Below w.heap.size w w':=by
 have HI:=zh (show LP l e c m=((e==c) && EC l (if c=0 then m else[])) from rfl);have H:=zh h;have G:=zh h2;obtain⟨a,ac,rfl⟩:=h.vshape;obtain⟨a2,ac2,rfl⟩:=h2.vshape;clear h h2;by_cases hc:c=0
 ·subst hc
  rw[if_pos rfl] at HI;obtain⟨Q,hQ,hQ1,HB0⟩:=AF w [.cells #[.slice a l.length ac] 24,.cells #[.slice a2 m.length ac2] 24];simp only[List.foldl] at hQ1;have hQb:=hQ.below;have HC:=zh (fun x (hx:In Q x)=>Eg l m _ _ _ _ x (H.out.below (hQb _ hx)) (G.out.below (hQb _ hx)));have y0:=Aa (j:=0) (HB0 _ hQ1 0 _ rfl) rfl;have z0:=Aa (j:=0) (HB0 _ hQ1 1 _ rfl) rfl;simp only[Nat.add_zero] at y0 z0;clear HB0;cases ec:(e==0)
  ·rw[ec,Bool.false_and] at HI
   go_enter Tryz.func12, Tryz.ntmps12
   go_wp2_with fail;go_ret;exact⟨by rw[HI.out];rfl,hQb _ hQ1⟩
  ·rw[ec,Bool.true_and] at HI
   rw[←HI.out] at HC
   go_enter Tryz.func12, Tryz.ntmps12
   go_wp2_with fail;refine(HC.out _ hQ1).mono ?_;rintro e w1 ⟨rfl,hb1⟩;have hQ2:=hQ.next _ _ hQ1 hb1
   go_wp2_with fail;go_ret;exact⟨rfl,hQb _ hQ2⟩
 rw[if_neg hc] at HI;have hq:(c !=0)=true:=by simpa using hc
 clear hc;obtain⟨Q,hQ,hQ1,HB0⟩:=AF w [.cells #[.slice a l.length ac] 24,.cells #[.slice none 0 0] 24];simp only[List.foldl] at hQ1;have hQb:=hQ.below;have HC:=zh (fun x (hx:In Q x)=>Eg l [] _ _ _ _ x (H.out.below (hQb _ hx)) (Az.nil (fun _=>True) x 0 none (by omega)));have y0:=Aa (j:=0) (HB0 _ hQ1 0 _ rfl) rfl;have z0:=Aa (j:=0) (HB0 _ hQ1 1 _ rfl) rfl;simp only[Nat.add_zero] at y0 z0;clear HB0;cases ec:(e==c)
 ·rw[ec,Bool.false_and] at HI
  go_enter Tryz.func12, Tryz.ntmps12
  go_wp2_with fail;go_ret;exact⟨by rw[HI.out];rfl,hQb _ hQ1⟩
 ·rw[ec,Bool.true_and] at HI
  rw[←HI.out] at HC
  go_enter Tryz.func12, Tryz.ntmps12
  go_wp2_with fail;refine(HC.out _ hQ1).mono ?_;rintro e w1 ⟨rfl,hb1⟩;have hQ2:=hQ.next _ _ hQ1 hb1
  go_wp2_with fail;go_ret;exact⟨rfl,hQb _ hQ2⟩
variable [Ghost]
theorem Xs {cs:Nat→List Value} {ys:List Value} {sz n i:Nat} (h:∀j,j<n→(cs j).length=sz) (hi:i<n):
  (AN cs n).take (i*sz)++ys++(AN cs n).drop (i*sz+sz)=AN (fun j=>if j=i then ys else cs j) n:=by
 obtain⟨k,rfl⟩:∃k,n=i+(1+k):=⟨n-i-1,by omega⟩;have hl:(AN cs i).length=i*sz:=Bc fun j hj=>h j (by omega)
 have hl2:(AN cs i++cs i).length=i*sz+sz:=by rw[List.length_append,hl,h i (by omega)]
 have e1:AN cs (i+(1+k))=AN cs i++(cs i++AN (fun j=>cs (i+(1+j))) k):=by rw[Df,KS];rfl
 rw[e1,show(AN cs i++(cs i++AN (fun j=>cs (i+(1+j))) k)).take (i*sz)=AN cs i by rw[←hl,List.take_left]];rw[←List.append_assoc (AN cs i),←hl2,List.drop_left];rw[Df,KS];have e2:AN (fun j=>if j=i then ys else cs j) i=AN cs i:=Bi fun j hj=>by rw[if_neg (by omega)]
 have e3:AN (fun j=>(fun j=>if i+j=i then ys else cs (i+j)) (1+j)) k=AN (fun j=>cs (i+(1+j))) k:=Bi fun j hj=>by
  show(if i+(1+j)=i then ys else cs (i+(1+j)))=cs (i+(1+j))
  rw[if_neg (by omega)]
 rw[e2,e3];simp
theorem Yo {α:Type} {A ys:List α} {a m n:Nat} (hy:ys.length=m) (h:a+m≤n) (hn:n≤A.length):(A.take a++ys++A.drop (a+m)).take n=(A.take n).take a++ys++(A.take n).drop (a+m):=by
 obtain⟨k,rfl⟩:∃k,n=a+m+k:=⟨n-a-m,by omega⟩;have h1:(A.take a++ys).length=a+m:=by rw[List.length_append,List.length_take,hy];omega
 have e1:(A.take a++ys++A.drop (a+m)).take (a+m+k)=A.take a++ys++(A.drop (a+m)).take k:=by
  rw[←h1,List.take_length_add_append]
 rw[e1,List.take_take,Nat.min_eq_left (by omega),List.drop_take,show a+m+k-(a+m)=k by omega]
end Go.Proofs.YtgbnlmplkealdaaGreatDoor
