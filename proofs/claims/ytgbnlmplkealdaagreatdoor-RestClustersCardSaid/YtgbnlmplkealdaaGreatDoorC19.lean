
/- SpoilB: walk of spoilReplica. -/
import Derived.Test.YtgbnlmplkealdaaGreatDoorC18
set_option linter.all false
set_option maxHeartbeats 4000000
set_option maxRecDepth 100000
namespace Go.Proofs.YtgbnlmplkealdaaGreatDoor
open Go.RowKit
variable [Ghost]
theorem FX.slice {N b o:Nat} {w x:World} (h:FX N w x) {a:Option Addr} {n c:Nat} (hc:w.cell? ⟨b,o,none⟩=some (.slice a n c)):x.cell? ⟨b,o,none⟩=some (.slice a n c):=by
 obtain⟨u,hu,hk⟩:=h.cell _ _ _ hc;rw[hk.slice] at hu;exact hu
theorem Mg (N:Nat) (w:World) (sa ra oa ua:Option Addr) (sn sc rn rc no oc un uc:Nat) (g ph:Int) (f:Bool) (hsn:sn≤1000000000000000000) (hrn:rn≤1000000000000000000) (hon:no≤1000000000000000000) (hun:un≤1000000000000000000)
  (h1:Qe N w sa sn) (h2:JO N w ra rn 2 0) (h3:Qe N w oa no) (h4:JO N w ua un 3 0) (hN:N≤w.heap.size):
  Calls Tryz.prog 17 #[.agg #[.slice sa sn sc,.slice ra rn rc,.int .i64 g,.int .i64 ph,.slice oa no oc,.slice ua un uc,.bool f]] w fun e w'=>e=.returned (.tuple #[])∧FX N w w':=by
 have hs0:FX N w (w.alloc (.cells #[.slice sa sn sc,.slice ra rn rc,.int .i64 g,.int .i64 ph,.slice oa no oc,.slice ua un uc,.bool f] 34)):=FX.of_below bal hN;have HX:=zh (heap_alloc_new w (.cells #[.slice sa sn sc,.slice ra rn rc,.int .i64 g,.int .i64 ph,.slice oa no oc,.slice ua un uc,.bool f] 34));have H1:=zh (h1.spl hs0);have H2:=zh (h2.spl hs0);have H3:=zh (h3.spl hs0);have H4:=zh (h4.spl hs0);have HS0:=zh hs0;have HN0:=zh (Nat.le_trans hN hs0.below.size);clear h1 h2 h3 h4 hs0
 go_enter Tryz.func17, Tryz.ntmps17
 go_wp2_with fail;generalize w.alloc (.cells #[.slice sa sn sc,.slice ra rn rc,.int .i64 g,.int .i64 ph,.slice oa no oc,.slice ua un uc,.bool f] 34)=w1 at*;have c1:=fun x (hx:FX N w1 x)=>hx.slice (Aa (j:=1) HX.out rfl)
 have c4:=fun x (hx:FX N w1 x)=>hx.slice (Aa (j:=4) HX.out rfl)
 have c5:=fun x (hx:FX N w1 x)=>hx.slice (Aa (j:=5) HX.out rfl)
 refine(Jx N w1 sa sn sc hsn H1.out HN0.out).mono ?_;rintro e x1 ⟨rfl,hS1⟩;have a4:=c4 _ hS1;have HS1:=zh hS1;clear hS1 H1 HX;go_wp2_with fail;refine(Jx N x1 oa no oc hon (H3.out.spl HS1.out) (Nat.le_trans HN0.out HS1.out.below.size)).mono ?_;rintro e x2 ⟨rfl,hS2⟩;have HS2:=zh (HS1.out.trans hS2);clear hS2 a4 H3 HS1;go_wp2_with fail;go_loopw [2] (fun i wr=>∃k:Nat,k≤rn∧i=.int .i64 k∧Hid (FX N w1 wr)) (fun i _=>rn-(intOf i).toNat)
 case atStart=>exact⟨0,Nat.zero_le _,rfl,HS2⟩
 clear HS2;obtain⟨k,hk,rfl,HS⟩:=hrel;have a1:=c1 _ HS.out;by_cases hlt:k<rn
 case pos=>
  obtain⟨b,off,rfl,hb,hz⟩:=(H2.out.spl HS.out) (by omega);obtain⟨f0,s,s0⟩:=hz k hlt;simp only[Nat.add_zero] at f0 s0;have hi1:=zk k;have hi2:(k:Int)<(rn:Int):=by omega
  have HT:=zh (HS.out.trans (FX.set hb s0 (u:=.string ⟨#[63]⟩) (.inr (.inr (.inl ⟨_,_,rfl,rfl⟩)))));clear hz;go_wp2_with fail;go_roundw
  case rel=>exact⟨k+1,by omega,by go_num,HT⟩
  case measure=>simp[intOf];omega
 obtain rfl:k=rn:=by omega
 go_wp2_with fail;go_loopw [3] (fun i wr=>∃k:Nat,k≤un∧i=.int .i64 k∧Hid (FX N w1 wr)) (fun i _=>un-(intOf i).toNat)
 case atStart=>exact⟨0,Nat.zero_le _,rfl,HS⟩
 clear HS a1;obtain⟨j,hj,rfl,HS⟩:=hrel;have a5:=c5 _ HS.out;by_cases hlj:j<un
 case pos=>
  obtain⟨b,off,rfl,hb,hz⟩:=(H4.out.spl HS.out) (by omega);obtain⟨f0,s,s0⟩:=hz j hlj;simp only[Nat.add_zero] at f0 s0;have hi1:=zk j;have hi2:(j:Int)<(un:Int):=by omega
  have HT:=zh (HS.out.trans (FX.set hb s0 (u:=.string ⟨#[63]⟩) (.inr (.inr (.inl ⟨_,_,rfl,rfl⟩)))));clear hz;go_wp2_with fail;go_roundw
  case rel=>exact⟨j+1,by omega,by go_num,HT⟩
  case measure=>simp[intOf];omega
 obtain rfl:j=un:=by omega
 go_wp2_with fail;go_end0;exact⟨rfl,HS0.out.trans HS.out⟩
variable [Ghost]
def Fl (l:List Am) (i:Nat):Bool:=(l.take i).any fun x=>IL x (Ag l i)
def Kp (l:List Am) (i:Nat):Int:=if Fl l i=true then 4 else 0
def Bp (l:List Am):Int:=
 if l.length≠3 then 1 else if An (fun i=>Ak (Ag l i)) 3≠0 then An (fun i=>Ak (Ag l i)) 3 else if An (Kp l) 3≠0 then 4 else if 2*(many l:Int)≤3 then 4 else 0
theorem Nq {l:List Am} (hl:l.length=3) {k:Nat} {e:Int} (h0:An (fun i=>Ak (Ag l i)) k=0) (hk:k<3) (he:Ak (Ag l k)=e) (hne:e≠0):Bp l=e:=by
 have h:=BX (f:=fun i=>Ak (Ag l i)) h0 (by show Ak (Ag l k)≠0;rw[he];exact hne) hk;unfold Bp;rw[if_neg (by omega),if_pos (by rw[h];show Ak (Ag l k)≠0;rw[he];exact hne),h];exact he
theorem Rm {l:List Am} (hl:l.length=3) {k:Nat} (h0:An (fun i=>Ak (Ag l i)) 3=0) (h1:An (Kp l) k=0) (hk:k<3) (hb:Fl l k=true):Bp l=4:=by
 have e:Kp l k=4:=by unfold Kp;rw[if_pos hb]
 have h:=BX (f:=Kp l) h1 (by rw[e];decide) hk;unfold Bp;rw[if_neg (by omega),if_neg (by simpa using h0),if_pos (by rw[h,e];decide)]
theorem Nr {l:List Am} (hl:l.length=3) (h0:An (fun i=>Ak (Ag l i)) 3=0) (h1:An (Kp l) 3=0):Bp l=if 2*(many l:Int)≤3 then 4 else 0:=by
 unfold Bp;rw[if_neg (by omega),if_neg (by simpa using h0),if_neg (by simpa using h1)]
theorem Pw {l:List Am} (h:Bp l=0):l.length=3∧(∀i,i<3→Ak (Ag l i)=0)∧(∀i,i<3→Fl l i=false)∧3<2*(many l:Int):=by
 unfold Bp at h;split at h
 ·cases h
 ·rename_i h3
  split at h
  ·rename_i h4;exact absurd h h4
  ·rename_i h4
   split at h
   ·cases h
   ·rename_i h5
    split at h
    ·cases h
    ·rename_i h6
     refine⟨by omega,fun i hi=>Bn (f:=fun i=>Ak (Ag l i)) (by simpa using h4) i hi,fun i hi=>?_,by omega⟩;have:=Bn (f:=Kp l) (by simpa using h5) i hi;unfold Kp at this;cases hb:Fl l i
     ·rfl
     ·rw[hb] at this;cases this
theorem Pv {l:List Am} (hl:l.length≠3):Bp l=1:=by unfold Bp;rw[if_pos hl]
theorem Rj {l:List Am} {k:Nat} (h:An (Kp l) k=0) (hb:Fl l k=false):An (Kp l) (k+1)=0:=Ay h (by unfold Kp;rw[hb];rfl)
def Nv (l:List Am) (g:Int):Nat→Nat
 |0=>0
 |k+1=>Nv l g k+if(Ag l k).gen=g then 1 else 0
theorem Rp {l:List Am} {g:Int}:∀{k:Nat},(∀i,i<k→(Ag l i).gen≠g)→Nv l g k=0
 |0,_=>rfl
 |k+1,h=>by unfold Nv;rw[Rp (fun i hi=>h i (by omega)),if_neg (h k (by omega))]
theorem Tb (l:List Am) (g:Int):∀k,Nv l g k≤k
 |0=>Nat.le_refl _
 |k+1=>by have:=Tb l g k;unfold Nv;split<;>omega
theorem IW (l:List Am):∀k,(∀i,i<k→(Ag l i).gen≤(Ag l (AQ l k).1).gen)∧(AQ l k).2=Nv l (Ag l (AQ l k).1).gen k
 |0=>⟨fun i hi=>absurd hi (by omega),rfl⟩
 | k+1=>by
  obtain⟨h1,h2⟩:=IW l k;unfold AQ;by_cases hg:k=0∨(Ag l (AQ l k).1).gen<(Ag l k).gen
  ·rw[if_pos hg]
   have hlt:∀i,i<k→(Ag l i).gen<(Ag l k).gen:=fun i hi=>by
    rcases hg with h|h
    ·omega
    ·exact Int.lt_of_le_of_lt (h1 i hi) h
   refine⟨fun i hi=>?_,?_⟩
   ·by_cases e:i=k
    ·subst e;exact Int.le_refl _
    ·exact Int.le_of_lt (hlt i (by omega))
   ·show 1=Nv l (Ag l k).gen (k+1)
    unfold Nv;rw[Rp (fun i hi=>by have:=hlt i hi;omega),if_pos rfl]
  ·rw[if_neg hg]
   have hle:(Ag l k).gen≤(Ag l (AQ l k).1).gen:=by
    rcases Int.lt_or_le (Ag l (AQ l k).1).gen (Ag l k).gen with h|h
    ·exact absurd (.inr h) hg
    ·exact h
   by_cases he:(Ag l k).gen=(Ag l (AQ l k).1).gen
   ·rw[if_pos he]
    refine⟨fun i hi=>?_,?_⟩
    ·by_cases e:i=k
     ·subst e;exact hle
     ·exact h1 i (by omega)
    ·show(AQ l k).2+1=Nv l (Ag l (AQ l k).1).gen (k+1)
     unfold Nv;rw[if_pos he,←h2]
   ·rw[if_neg he]
    refine⟨fun i hi=>?_,?_⟩
    ·by_cases e:i=k
     ·subst e;exact hle
     ·exact h1 i (by omega)
    ·show(AQ l k).2=Nv l (Ag l (AQ l k).1).gen (k+1)
     unfold Nv;rw[if_neg he,←h2,Nat.add_zero]
theorem NZ (l:List Am):many l=Nv l (Ag l (BS l)).gen l.length:=(IW l l.length).2
theorem GZ {l:List Am} (h:0<l.length):BS l<l.length:=by have:=LL l l.length;unfold BS;omega
theorem PQ (x y:Am):IL x y=IL y x:=by
 unfold IL;have e1:(x.gen==y.gen)=(y.gen==x.gen):=by rw[Bool.eq_iff_iff,beq_iff_eq,beq_iff_eq];exact eq_comm
 have e2:BF x.refs y.refs=BF y.refs x.refs:=by rw[Bool.eq_iff_iff,ED,ED];exact eq_comm
 rw[e1,e2]
theorem Sp {l:List Am} {i j:Nat} (h:j<i):Ag (l.take i) j=Ag l j:=by
 unfold Ag at_;simp only[List.getD_eq_getElem?_getD,List.getElem?_take,if_pos h]
theorem WM {l:List Am} {i k:Nat} (hi:i≤l.length) (hk:k<i) (h:IL (Ag l i) (Ag l k)=true):Fl l i=true:=by
 unfold Fl;rw[List.any_eq_true];have hl:k<(l.take i).length:=by rw[List.length_take];omega
 exact⟨Ag l k,by rw[←Sp hk,EA hl];exact List.getElem_mem hl,by rw[PQ];exact h⟩
theorem Uo {l:List Am} {i:Nat} (hi:i≤l.length) (h:∀k,k<i→IL (Ag l i) (Ag l k)=false):Fl l i=false:=by
 unfold Fl;rw[List.any_eq_false];intro x hx;obtain⟨k,hk,rfl⟩:=List.getElem_of_mem hx;have hk':k<i:=by rw[List.length_take] at hk;omega
 rw[←EA hk,Sp hk',PQ,h k hk'];simp
theorem Fv (l:List Am) (v:Value) (S:Nat→Prop) (w:World) (h:Az S w v l):
  Calls Tryz.prog 22 #[.agg #[v]] w fun e w'=>e=.returned (.int .i64 (Bp l))∧Below w.heap.size w w':=by
 have h':=h;obtain⟨a,n,cap,fr,HN,rfl,h1,h2,h3,h4,h5⟩:=h.open;obtain⟨R,hR,hR1,HB0⟩:=AF w [.cells #[.slice a n cap] 24];simp only[List.foldl] at hR1;have hRb:=hR.below;have hRn:=hR.next
 have c0:=fun x (hx:In R x)=>Aa (j:=0) (HB0 x hx 0 _ rfl) rfl
 simp only[Nat.add_zero] at c0;clear HB0;have cc:=c0 _ hR1;by_cases hn3:n=3
 case neg=>
  have HE:=zh (Pv (l:=l) (by rw[←HN.out];exact hn3));have hq:((n:Int) !=3)=true:=by simpa using(show(n:Int)≠3 by omega)
  clear hn3 h h'
  go_enter Tryz.func22, Tryz.ntmps22
  go_wp2_with fail;go_ret;exact⟨Af HE.out.symm,hRb _ hR1⟩
 subst hn3;have hl3:l.length=3:=HN.out.symm;have HA:=zh (fun k e h0 (hk:k<3) he hne=>Nq (l:=l) (k:=k) (e:=e) hl3 h0 hk he hne);have HB:=zh (fun k h0 h1 (hk:k<3) hb=>Rm (l:=l) (k:=k) hl3 h0 h1 hk hb);have HF:=zh (fun h0 h1=>Nr (l:=l) hl3 h0 h1);have H:=zh h';have Hl3:=zh hl3;clear h h' hl3
 go_enter Tryz.func22, Tryz.ntmps22
 go_wp2_with fail;clear cc;go_loopw [17] (fun i wr=>∃k:Nat,k≤3∧i=.int .i64 k∧Hid (An (fun i=>Ak (Ag l i)) k=0)∧In R wr) (fun i _=>3-(intOf i).toNat)
 case atStart=>exact⟨0,by omega,rfl,rfl,hR1⟩
 obtain⟨k,hk,rfl,Hs,hRw⟩:=hrel;clear hR1;by_cases hlt:k<3
 ·obtain⟨b,off,rfl,hb,k0,k1,k2,k3,k4,k5,k6⟩:=h4 (by omega)
  have x0:=k0 k wr hlt (hRb _ hRw);have x1:=k1 k wr hlt (hRb _ hRw);have x2:=k2 k wr hlt (hRb _ hRw);have x3:=k3 k wr hlt (hRb _ hRw);have x4:=k4 k wr hlt (hRb _ hRw);have x5:=k5 k wr hlt (hRb _ hRw);have x6:=k6 k wr hlt (hRb _ hRw);obtain⟨Q,hQ,hQ1,hy⟩:=BO wr (c7 (Ag l k) (fr k).sa (fr k).sc (fr k).ra (fr k).rc (fr k).oa (fr k).oc (fr k).ua (fr k).uc) 34;have y0:=hy 0 _ rfl _ hQ1;have y1:=hy 1 _ rfl _ hQ1;have y2:=hy 2 _ rfl _ hQ1;have y3:=hy 3 _ rfl _ hQ1;have y4:=hy 4 _ rfl _ hQ1;have y5:=hy 5 _ rfl _ hQ1;have y6:=hy 6 _ rfl _ hQ1;have hR2:=hRn _ _ hRw (hQ.below _ hQ1);have hi1:=zk k;have hi2:(k:Int)<(3:Int):=by omega
  have HC:=zh (Fy (Ag l k) _ _ _ _ _ _ ((h5 k hlt).below (hRb _ hR2)));simp only[AO] at HC;clear hy hQ1 hQ h4 h5 k0 k1 k2 k3 k4 k5 k6;by_cases hz:Ak (Ag l k)=0
  ·have Hz:=zh hz
   rw[hz] at HC;clear hz;go_wp2_with fail;refine HC.out.mono ?_;rintro e w1 ⟨rfl,hb1⟩;have hR3:=hRn _ _ hR2 hb1;go_wp2_with fail;go_roundw
   case rel=>exact⟨k+1,by omega,by go_num,Ay Hs.out Hz.out,hR3⟩
   case measure=>simp[intOf];omega
  ·have HE:=zh (HA.out k _ Hs.out hlt rfl hz)
   have hq:(Ak (Ag l k) !=0)=true:=by simpa using hz
   clear hz;generalize Ak (Ag l k)=c at*;go_wp2_with fail;refine HC.out.mono ?_;rintro e w1 ⟨rfl,hb1⟩;have hR3:=hRn _ _ hR2 hb1;go_wp2_with fail;go_ret;exact⟨Af HE.out.symm,hRb _ hR3⟩
 ·obtain rfl:k=3:=by omega
  have cc:=c0 _ hRw;rw[show((3:Nat):Int)=3 from rfl];go_wp2_with fail;clear cc;go_loopw [30] (fun i wx=>∃k:Nat,k≤3∧i=.int .i64 k∧Hid (An (Kp l) k=0)∧In R wx) (fun i _=>3-(intOf i).toNat)
  case atStart=>exact⟨0,by omega,rfl,rfl,hRw⟩
  obtain⟨k,hk2,rfl,Ht,hRx⟩:=hrel;clear hRw;by_cases hlt:k<3
  ·have h5k:=h5 k hlt
   obtain⟨b,off,rfl,hb,k0,k1,k2,k3,k4,k5,k6⟩:=h4 (by omega);have x0:=k0 k wr hlt (hRb _ hRx);have x1:=k1 k wr hlt (hRb _ hRx);have x2:=k2 k wr hlt (hRb _ hRx);have x3:=k3 k wr hlt (hRb _ hRx);have x4:=k4 k wr hlt (hRb _ hRx);have x5:=k5 k wr hlt (hRb _ hRx);have x6:=k6 k wr hlt (hRb _ hRx);obtain⟨Q,hQ,hQ1,hy⟩:=BO wr (c7 (Ag l k) (fr k).sa (fr k).sc (fr k).ra (fr k).rc (fr k).oa (fr k).oc (fr k).ua (fr k).uc) 34;have hQb:=hQ.below;have hQR:∀x,In Q x→In R x:=fun x hx=>hRn _ _ hRx (hQb x hx)
   have Hy1:=zh (hy 1 _ rfl);have Hy2:=zh (hy 2 _ rfl);have hR2:=hQR _ hQ1;have hi1:=zk k;have hi2:(k:Int)<(3:Int):=by omega
   have hi3:(k:Int)≤(cap:Int):=by omega
   have c1:=c0 _ hR2;have HAp:=zh (show Wk 48 (.pointer (some ⟨wr.heap.size,0,none⟩)) (fun x=>IL x (Ag l k)) (wr.alloc (.cells (c7 (Ag l k) (fr k).sa (fr k).sc (fr k).ra (fr k).rc (fr k).oa (fr k).oc (fr k).ua (fr k).uc) 34)) (l.take k) from
    fun x i S2 sv rv ov uv hi hx hr=>OW _ (Ag l k) sv rv ov uv _ _ x hr wr.heap.size _ (h5k.refs.below (hRb _ (hQR _ (hQ.next _ _ hQ1 hx)))) (Hy2.out x (hQ.next _ _ hQ1 hx)) (Hy1.out x (hQ.next _ _ hQ1 hx)))
   have HCf:=zh (KN (l.take k) _ _ S _ _ _ ((H.out.take (i:=k) (by have:=Hl3.out;omega)).below (hRb _ hR2)) (fun _ _=>rfl) HAp.out);have HCf:Hid (Calls _ _ _ _ fun e w'=>e=.returned (.bool (Fl l k))∧Below _ _ w'):=HCf;clear hy hQ1 hQ h4 h5 k0 k1 k2 k3 k4 k5 k6 HAp Hy1 Hy2 h5k hQb hQR;cases hb:Fl l k
   ·have Hn:=zh (Rj Ht.out hb)
    rw[hb] at HCf;go_wp2_with fail;refine HCf.out.mono ?_;rintro e w1 ⟨rfl,hb1⟩;have hR3:=hRn _ _ hR2 hb1;go_wp2_with fail;go_roundw
    case rel=>exact⟨k+1,by omega,by go_num,Hn.out,hR3⟩
    case measure=>simp[intOf];omega
   ·have HE:=zh (HB.out k Hs.out Ht.out hlt hb)
    rw[hb] at HCf;go_wp2_with fail;refine HCf.out.mono ?_;rintro e w1 ⟨rfl,hb1⟩;have hR3:=hRn _ _ hR2 hb1;go_wp2_with fail;go_ret;exact⟨Af HE.out.symm,hRb _ hR3⟩
  ·obtain rfl:k=3:=by omega
   have cc:=c0 _ hRx;have HBe:=zh (Nm l _ _ _ (H.out.below (hRb _ hRx)));have HE:=zh (HF.out Hs.out Ht.out);have hmm:=IV l l.length;have Hml:=zh (show many l≤3 by have:=Hl3.out;unfold many;omega);clear hmm HB HA HF;generalize many l=m at*;have hml:=Hml.out;have hw1:=Be (n:=2*(m:Int)) (by omega);by_cases hm:2*(m:Int)≤3
   ·rw[if_pos hm] at HE
    have hd:decide (2*(m:Int)≤3)=true:=decide_eq_true hm;clear hm;go_wp2_with fail;refine HBe.out.mono ?_;rintro e w1 ⟨rfl,hb1⟩;have hR3:=hRn _ _ hRx hb1;go_wp2_with fail;go_ret;exact⟨Af HE.out.symm,hRb _ hR3⟩
   ·rw[if_neg hm] at HE
    have hd:decide (2*(m:Int)≤3)=false:=decide_eq_false hm;clear hm;go_wp2_with fail;refine HBe.out.mono ?_;rintro e w1 ⟨rfl,hb1⟩;have hR3:=hRn _ _ hRx hb1;go_wp2_with fail;go_ret;exact⟨Af HE.out.symm,hRb _ hR3⟩
def XO (l:List Am):Int:=if Bp l=0 then(BS l:Int) else 0
theorem Ky (l:List Am) (v:Value) (S:Nat→Prop) (w:World) (h:Az S w v l):
  Calls Tryz.prog 21 #[.agg #[v]] w fun e w'=>e=.returned (.tuple #[.int .i64 (XO l),.int .i64 (Bp l)])∧Below w.heap.size w w':=by
 have HN:=zh (show XO l=if Bp l=0 then(BS l:Int) else 0 from rfl);have H:=zh h;obtain⟨a,cap,rfl⟩:=h.vshape;obtain⟨R,hR,hR1,HB0⟩:=AF w [.cells #[.slice a l.length cap] 24];simp only[List.foldl] at hR1;have hRb:=hR.below;have hRn:=hR.next
 have c0:=fun x (hx:In R x)=>Aa (j:=0) (HB0 x hx 0 _ rfl) rfl
 simp only[Nat.add_zero] at c0;have cc:=c0 _ hR1;have HC:=zh (Fv l _ _ _ (H.out.below (hRb _ hR1)));have HB:=zh (fun x (hx:In R x)=>Nm l _ _ x (H.out.below (hRb _ hx)));clear HB0 h;by_cases hz:Bp l=0
 ·rw[if_pos hz] at HN
  rw[hz] at HC⊢;clear hz
  go_enter Tryz.func21, Tryz.ntmps21
  go_wp2_with fail;refine HC.out.mono ?_;rintro e w1 ⟨rfl,hb1⟩;have hR2:=hRn _ _ hR1 hb1;have c1:=c0 _ hR2;go_wp2_with fail;refine(HB.out _ hR2).mono ?_;rintro e w2 ⟨rfl,hb2⟩;have hR3:=hRn _ _ hR2 hb2;go_wp2_with fail;refine bodyPost_ret (v:=.tuple #[.int .i64 (BS l),.int .i64 0]) (by simp[results,Tryz.results21,go_sem]<;>rfl) rfl ?_;exact⟨by rw[HN.out],hRb _ hR3⟩
 ·rw[if_neg hz] at HN
  have hq:(Bp l !=0)=true:=by simpa using hz
  clear hz;generalize Bp l=c at*
  go_enter Tryz.func21, Tryz.ntmps21
  go_wp2_with fail;refine HC.out.mono ?_;rintro e w1 ⟨rfl,hb1⟩;have hR2:=hRn _ _ hR1 hb1;go_wp2_with fail;refine bodyPost_ret (v:=.tuple #[.int .i64 0,.int .i64 c]) (by simp[results,Tryz.results21,go_sem]<;>rfl) rfl ?_;exact⟨by rw[HN.out],hRb _ hR2⟩
end Go.Proofs.YtgbnlmplkealdaaGreatDoor
