
/- Walks: updates: what is wrong with them, the program's Check and the reference's CheckUpdates. -/
import Derived.Shelf.Strings.Builder1
import Derived.Shelf.Strings.Builder2
import Derived.Shelf.Strings.OnBuilder
import Derived.Shelf.Small.Bits
import Derived.Shelf.Small.Strs
import Derived.Shelf.Strconv.Itoa0
import Derived.Shelf.Strconv.Itoa1
import Derived.Shelf.LaysM
import Derived.Shelf.Strconv.Itoa2
import Derived.Shelf.Strconv.Itoa3
import Derived.Shelf.Strings.Prefix
import Derived.Shelf.Slices.Equal
import Derived.Ground.Names2Prog
import Derived.Shelf.Slices.Clone
import Derived.Shelf.Slices.Empties2
import Derived.Test.YtgbnlmplkealdaaGreatDoorProg
import Derived.Test.YtgbnlmplkealdaaGreatDoorC9
set_option linter.all false
set_option maxHeartbeats 4000000
set_option maxRecDepth 100000
namespace Go.Proofs.YtgbnlmplkealdaaGreatDoor
open Go.RowKit
variable [Ghost]
theorem GT (n:Int) (w:World):Calls Tryz.prog 119 #[.int .i64 n] w fun e w'=>e=.returned (.bool (within n 0 99))∧w=w':=by
 go_enter Tryz.func119, Tryz.ntmps119
 go_wp2
 all_goals go_ret
 all_goals (refine⟨?_,rfl⟩;simp[within, *])
 omega
def Mt (p:Mv→Bool) (l:List Mv):Int:=match l.findIdx? p with|some i=>(i:Int)|none=>-1
theorem Vl {l:List Mv} {p:Mv→Bool} {k:Nat} (h:∀j,j<k→p (mv l j)=false) (hk:k<l.length) (he:p (mv l k)=true):Mt p l=k:=by
 unfold Mt;have:l.findIdx? p=some k:=by
  rw[List.findIdx?_eq_some_iff_getElem];refine⟨hk,by rw[←Da hk];exact he,fun j hj=>?_⟩;have:=h j hj;rw[Da (by omega)] at this;simp[this]
 rw[this]
theorem Tn {l:List Mv} {p:Mv→Bool} (h:∀j,j<l.length→p (mv l j)=false):Mt p l=-1:=by
 unfold Mt;have:l.findIdx? p=none:=by
  rw[List.findIdx?_eq_none_iff];intro x hx;obtain⟨i,hi,rfl⟩:=List.getElem_of_mem hx;have:=h i hi
  rwa [Da hi] at this
 rw[this]
theorem RI (p:Mv→Bool) (l:List Mv):(Mt p l=-1∧∀j,j<l.length→p (mv l j)=false)∨∃k,k<l.length∧Mt p l=(k:Int)∧p (mv l k)=true:=by
 unfold Mt;cases h:l.findIdx? p with
 |none=>
  rw[List.findIdx?_eq_none_iff] at h;exact .inl ⟨rfl,fun j hj=>by rw[Da hj];exact h _ (List.getElem_mem hj)⟩
 |some k=>
  rw[List.findIdx?_eq_some_iff_getElem] at h;obtain⟨hk,he,_⟩:=h;exact .inr ⟨k,hk,rfl,by rw[Da hk];exact he⟩
def Wl (g:Nat) (c:Value) (p:Mv→Bool) (w:World) (l:List Mv):Prop:=
 ∀(x:World) (i:Nat),i<l.length→Below w.heap.size w x→Calls Tryz.prog g #[.agg #[.string (mv l i).name,.int .i64 (mv l i).old,.int .i64 (mv l i).new],c] x fun e w'=>e=.returned (.bool (p (mv l i)))∧Below x.heap.size x w'
theorem NO (l:List Mv) (v c:Value) (S:Nat→Prop) (g:Nat) (p:Mv→Bool) (w:World) (h:AJ S w v l) (eg:∀args w,(callFunc g args).run Tryz.prog w=.ok (.enter g args) w) (hp:Wl g c p w l):
  Calls Tryz.prog 147 #[v,.func (.func g) #[] #[c]] w fun e w'=>e=.returned (.int .i64 (Mt p l))∧Below w.heap.size w w':=by
 obtain⟨a,n,cap,HN,rfl,h1,h2,h3,h4⟩:=h.open;clear h;obtain⟨R,hR,hR1,_⟩:=Av w;have hRb:=hR.below;have hRn:=hR.next
 have Hp:=zh (fun x k (hk:k<n) hx=>hp x k (by rw[←HN.out];exact hk) hx);clear hp;have Hh:=zh (fun k h1 hk he=>Vl (l:=l) (p:=p) (k:=k) h1 (by rw[←HN.out];exact hk) he);have Hn:=zh (fun h1=>Tn (l:=l) (p:=p) (by rw[←HN.out];exact h1))
 go_enter Tryz.func147, Tryz.ntmps147
 go_wp2_with fail;go_loopw [8] (fun i wr=>∃k:Nat,k≤n∧i=.int .i64 k∧Hid (∀j,j<k→p (mv l j)=false)∧In R wr) (fun i _=>n-(intOf i).toNat)
 case atStart=>exact⟨0,by omega,rfl,fun j hj=>absurd hj (by omega),hR1⟩
 obtain⟨k,hk,rfl,Hs,hRw⟩:=hrel;clear hR1;by_cases hlt:k<n
 ·obtain⟨b,off,rfl,hb,k0,k1,k2⟩:=h4 (by omega)
  have x0:=k0 k wr hlt (hRb _ hRw);have x1:=k1 k wr hlt (hRb _ hRw);have x2:=k2 k wr hlt (hRb _ hRw);clear h4 k0 k1 k2;cases hq:p (mv l k)
  ·have He:=zh hq
   go_wp2_with fail;refine(Hp.out _ k hlt (hRb _ hRw)).mono ?_;rintro e w' ⟨rfl,hb2⟩;rw[hq];have hR2:=hRn _ _ hRw hb2;go_wp2_with fail;go_roundw
   case rel=>exact⟨k+1,by omega,by go_num,By Hs.out He.out,hR2⟩
   case measure=>simp[intOf];omega
  ·have HK:=zh (Hh.out k Hs.out hlt hq)
   go_wp2_with fail;refine(Hp.out _ k hlt (hRb _ hRw)).mono ?_;rintro e w' ⟨rfl,hb2⟩;rw[hq];have hR2:=hRn _ _ hRw hb2;go_wp2_with fail;go_ret;exact⟨Af HK.out.symm,hRb _ hR2⟩
 ·obtain rfl:k=n:=by omega
  have HK:=zh (Hn.out Hs.out);go_wp2_with fail;go_ret;exact⟨Af HK.out.symm,hRb _ hRw⟩
theorem KO (l:List Mv) (v c:Value) (S:Nat→Prop) (g:Nat) (p:Mv→Bool) (w:World) (h:AJ S w v l) (eg:∀args w,(callFunc g args).run Tryz.prog w=.ok (.enter g args) w) (hp:Wl g c p w l):
  Calls Tryz.prog 120 #[v,.func (.func g) #[] #[c]] w fun e w'=>e=.returned (.bool (l.any p))∧Below w.heap.size w w':=by
 obtain⟨q,rfl⟩:=h.shape;have Hi:=zh (NO l _ c S g p w h eg hp);rcases RI p l with⟨h0,h1⟩|⟨k,hk,h0,h1⟩
 ·have Ha:=zh (show l.any p=false by
   rw[List.any_eq_false];intro x hx;obtain⟨i,hi,rfl⟩:=List.getElem_of_mem hx;have:=h1 i hi;rw[Da hi] at this;simp[this])
  clear h1 hp
  go_enter Tryz.func120, Tryz.ntmps120
  go_wp2_with fail;refine Hi.out.mono ?_;rintro e w' ⟨rfl,hb⟩;rw[h0];go_wp2_with fail;go_ret;exact⟨by rw[Ha.out];rfl,hb⟩
 ·have Ha:=zh (show l.any p=true by
   rw[List.any_eq_true];exact⟨mv l k,by rw[Da hk];exact List.getElem_mem hk,h1⟩)
  have hd:decide ((0:Int)≤(k:Int))=true:=by simp
  clear h1 hp
  go_enter Tryz.func120, Tryz.ntmps120
  go_wp2_with fail;refine Hi.out.mono ?_;rintro e w' ⟨rfl,hb⟩;rw[h0];go_wp2_with fail;go_ret;exact⟨by rw[Ha.out];first|rfl|simp,hb⟩
theorem Pr (x u:Mv) (a:Addr) (w:World) (ha:a.spot=none) (hc:w.cell? a=some (.string u.name)):
  Calls Tryz.prog 121 #[.agg #[.string x.name,.int .i64 x.old,.int .i64 x.new],.pointer (some a)] w fun e w'=>e=.returned (.bool (x.name.toList==u.name.toList))∧Below w.heap.size w w':=by
 obtain⟨b,off,sp⟩:=a;simp only at ha;subst ha;obtain⟨R,hR,hR1,hx⟩:=BO w #[.string x.name,.int .i64 x.old,.int .i64 x.new] 88;have hx0:=hx 0 _ rfl _ hR1;have hc2:=Ae (hR.below _ hR1) hc;have hbw:=hR.below _ hR1;clear hx hR1 hR hc;generalize hq:(x.name.toList==u.name.toList)=q
 go_enter Tryz.func121, Tryz.ntmps121
 go_wp2_with fail;go_ret;exact⟨rfl,hbw⟩
theorem AJ.take {S:Nat→Prop} {w:World} {a:Option Addr} {n cap:Nat} {l:List Mv} (h:AJ S w (.slice a n cap) l) {i:Nat} (hi:i≤l.length):AJ S w (.slice a i cap) (l.take i):=by
 obtain⟨⟨a',cap',hv,h1,h2,h3,h4⟩,h5⟩:=h;cases hv;have hl:(l.take i).length=i:=by rw[List.length_take];omega
 have hmv:∀j,j<i→mv (l.take i) j=mv l j:=fun j hj=>by
  unfold mv at_;simp only[List.getD_eq_getElem?_getD,List.getElem?_take,if_pos hj]
 refine⟨⟨a,cap,by rw[hl],by omega,h2,by omega,fun hn=>?_⟩,fun u hu=>h5 u (List.mem_of_mem_take hu)⟩;obtain⟨b,off,ha,hS,hc⟩:=h4 (by omega);exact⟨b,off,ha,⟨hS.1,hS.2.sub (Nat.le_refl _) (by rw[hl];omega)⟩,fun j hj q u hu=>by simp only[hmv j (by omega)] at hu;exact hc j (by omega) q u hu⟩
theorem Xm {l:List Mv} {i:Nat} (hi:i≤l.length):((l.take i).any fun x=>x.name.toList==(mv l i).name.toList)=LU l i:=by
 unfold LU;rw[Bool.eq_iff_iff,List.any_eq_true,List.any_eq_true];constructor
 ·rintro⟨x,hx,e⟩
  obtain⟨j,hj,rfl⟩:=List.getElem_of_mem hx;have hj':j<i:=by simp at hj;omega
  exact⟨j,List.mem_range.2 hj',by rw[Da (show j<l.length by omega)];simpa using e⟩
 ·rintro⟨k,hk,e⟩
  have hk':=List.mem_range.1 hk;exact⟨mv l k,by rw[Da (show k<l.length by omega)];exact List.mem_take_iff_getElem.2 ⟨k,by omega,rfl⟩,e⟩
theorem QS (l:List Mv) (v:Value) (S:Nat→Prop) (w:World) (h:AJ S w v l):
  Calls Tryz.prog 95 #[v] w fun e w'=>e=.returned (.int .i64 (AP l))∧Below w.heap.size w w':=by
 have h':=h;obtain⟨a,n,cap,HN,rfl,h1,h2,h3,h4⟩:=h.open;have H5:=zh (fun i (hi:i<n)=>(h.each (i:=i) (by rw[←HN.out];exact hi)));clear h;obtain⟨R,hR,hR1,_⟩:=Av w;have hRb:=hR.below;have hRn:=hR.next
 by_cases h0:n=0
 ·have He:=zh (JS (l:=l) (by rw[←HN.out];exact h0))
  have hq:((n:Int)==0)=true:=by simpa using h0
  subst h0
  go_enter Tryz.func95, Tryz.ntmps95
  go_wp2_with fail;go_ret;exact⟨Af He.out.symm,hRb _ hR1⟩
 by_cases h8:4<n
 ·have He:=zh (JR (l:=l) (by rw[←HN.out];exact h8))
  have hq:((n:Int)==0)=false:=by simpa using h0
  clear h0
  go_enter Tryz.func95, Tryz.ntmps95
  go_wp2_with fail;go_ret;exact⟨Af He.out.symm,hRb _ hR1⟩
 ·have Hbad:=zh (fun i e (hs:An (Eb l) i=0) (hi:i<n) (he:Eb l i=e) (hne:e≠0)=>KK (by rw[←HN.out];omega) (by rw[←HN.out];omega) hs (by rw[←HN.out];exact hi) he hne)
  have Hok:=zh (fun(hs:An (Eb l) n=0)=>IX (l:=l) (by rw[←HN.out];omega) (by rw[←HN.out];omega) (by rw[←HN.out];exact hs));have hq:((n:Int)==0)=false:=by simpa using h0
  clear h0
  go_enter Tryz.func95, Tryz.ntmps95
  go_wp2_with fail;go_loopw [17] (fun i wr=>∃k:Nat,k≤n∧i=.int .i64 k∧Hid (An (Eb l) k=0)∧In R wr) (fun i _=>n-(intOf i).toNat)
  case atStart=>exact⟨0,by omega,rfl,rfl,hR1⟩
  obtain⟨k,hk,rfl,Hs,hRw⟩:=hrel;clear hR1;by_cases hlt:k<n
  ·obtain⟨b,off,rfl,hb,k0,k1,k2⟩:=h4 (by omega)
   have x0:=k0 k wr hlt (hRb _ hRw);have x1:=k1 k wr hlt (hRb _ hRw);have x2:=k2 k wr hlt (hRb _ hRw);have Hnm:=H5.out k hlt;have Hre:=zh (show Eb l k=if AR (mv l k).name≠0 then AR (mv l k).name else if within (mv l k).old 0 99=false∨within (mv l k).new 0 99=false then 3 else if(mv l k).old=0∧(mv l k).new=0 then 1 else if LU l k=true then 6 else 0 from rfl);clear h4 k0 k1 k2;obtain⟨Q,hQ,hQ1,hy⟩:=BO wr #[.string (mv l k).name,.int .i64 (mv l k).old,.int .i64 (mv l k).new] 88;have y0:=hy 0 _ rfl _ hQ1;have y1:=hy 1 _ rfl _ hQ1;have y2:=hy 2 _ rfl _ hQ1;have Hy:=zh (hy 0 _ rfl);clear hy;have hQb:∀x,In Q x→Below w.heap.size w x:=fun x hx=>Al (hRb _ hRw) (hQ.below x hx)
   have hQn:=hQ.next
   have Hap:=zh (show Wl 121 (.pointer (some ⟨wr.heap.size,0,none⟩)) (fun x=>x.name.toList==(mv l k).name.toList) (wr.alloc (.cells #[.string (mv l k).name,.int .i64 (mv l k).old,.int .i64 (mv l k).new] 88)) (l.take k) from
    fun x i hi hx=>Pr _ (mv l k) ⟨wr.heap.size,0,none⟩ x rfl (Hy.out x (hQn _ _ hQ1 hx)))
   have Hdt:=zh (Xm (l:=l) (i:=k) (by have:=HN.out;omega));have Hcf:=zh (KO (l.take k) _ _ S _ _ _ ((h'.take (i:=k) (by have:=HN.out;omega)).below (hQb _ hQ1)) (fun _ _=>rfl) Hap.out);rw[Hdt.out] at Hcf;have hi1:=zk k;have hi2:(k:Int)<(n:Int):=by omega
   have hi3:(k:Int)≤(cap:Int):=by omega
   have Hna:=zh (fun x=>Sg (mv l k).name x Hnm.2.2);clear Hnm Hap Hy;by_cases hz:AR (mv l k).name=0
   ·rw[hz] at Hna
    rw[if_neg (by simp[hz])] at Hre;clear hz;cases q1:within (mv l k).old 0 99
    ·have HE:=zh (Hbad.out k 3 Hs.out hlt (by rw[Hre.out,if_pos (.inl q1)]) (by decide))
     go_wp2_with (first|(go_at_call 118;refine(Hna.out _).mono ?_;rintro e w' ⟨rfl,rfl⟩)|(go_at_call 119;refine(GT _ _).mono ?_;rintro e w' ⟨rfl,rfl⟩));go_ret;exact⟨Af HE.out.symm,hQb _ hQ1⟩
    ·cases q2:within (mv l k).new 0 99
     ·have HE:=zh (Hbad.out k 3 Hs.out hlt (by rw[Hre.out,if_pos (.inr q2)]) (by decide))
      go_wp2_with (first|(go_at_call 118;refine(Hna.out _).mono ?_;rintro e w' ⟨rfl,rfl⟩)|(go_at_call 119;refine(GT _ _).mono ?_;rintro e w' ⟨rfl,rfl⟩));go_ret;exact⟨Af HE.out.symm,hQb _ hQ1⟩
     ·have hno:¬(within (mv l k).old 0 99=false∨within (mv l k).new 0 99=false):=by simp[q1,q2]
      rw[if_neg hno] at Hre;clear hno;by_cases hm:(mv l k).old=0∧(mv l k).new=0
      ·have HE:=zh (Hbad.out k 1 Hs.out hlt (by rw[Hre.out,if_pos hm]) (by decide))
       have q3:((mv l k).old==0)=true:=by simpa using hm.1
       have q4:((mv l k).new==0)=true:=by simpa using hm.2
       clear hm;go_wp2_with (first|(go_at_call 118;refine(Hna.out _).mono ?_;rintro e w' ⟨rfl,rfl⟩)|(go_at_call 119;refine(GT _ _).mono ?_;rintro e w' ⟨rfl,rfl⟩));go_ret;exact⟨Af HE.out.symm,hQb _ hQ1⟩
      ·rw[if_neg hm] at Hre
       have hm3:((mv l k).old==0)=false∨(((mv l k).old==0)=true∧((mv l k).new==0)=false):=by
        by_cases h:(mv l k).old=0
        ·exact .inr ⟨by simpa using h,by simpa using fun h2=>hm ⟨h,h2⟩⟩
        ·exact .inl (by simpa using h)
       clear hm;cases hd:LU l k
       ·rw[hd] at Hcf
        have HN2:=zh (Ay Hs.out (show Eb l k=0 by rw[Hre.out,hd];simp));rcases hm3 with q3|⟨q3,q4⟩
        all_goals
         go_wp2_with (first|(go_at_call 118;refine(Hna.out _).mono ?_;rintro e w' ⟨rfl,rfl⟩)|(go_at_call 119;refine(GT _ _).mono ?_;rintro e w' ⟨rfl,rfl⟩));refine Hcf.out.mono ?_;rintro e w4 ⟨rfl,hb4⟩;have hQ4:=hQn _ _ hQ1 hb4;clear hb4;go_wp2_with fail;go_roundw
         case rel=>exact⟨k+1,by omega,by go_num,HN2.out,hRn _ _ hRw (hQ.below _ hQ4)⟩
         case measure=>simp[intOf];omega
       ·rw[hd] at Hcf
        have HE:=zh (Hbad.out k 6 Hs.out hlt (by rw[Hre.out,if_pos hd]) (by decide));rcases hm3 with q3|⟨q3,q4⟩
        all_goals
         go_wp2_with (first|(go_at_call 118;refine(Hna.out _).mono ?_;rintro e w' ⟨rfl,rfl⟩)|(go_at_call 119;refine(GT _ _).mono ?_;rintro e w' ⟨rfl,rfl⟩));refine Hcf.out.mono ?_;rintro e w4 ⟨rfl,hb4⟩;have hQ4:=hQn _ _ hQ1 hb4;clear hb4;go_wp2_with fail;go_ret;exact⟨Af HE.out.symm,hQb _ hQ4⟩
   ·have HE:=zh (Hbad.out k _ Hs.out hlt (by rw[Hre.out,if_pos hz]) hz)
    have hz':(AR (mv l k).name !=0)=true:=by simpa using hz
    clear hz;go_wp2_with (go_at_call 118;refine(Hna.out _).mono ?_;rintro e w' ⟨rfl,rfl⟩);go_ret;exact⟨Af HE.out.symm,hQb _ hQ1⟩
  ·obtain rfl:k=n:=by omega
   have HE:=zh (Hok.out Hs.out);go_wp2_with fail;go_ret;exact⟨Af HE.out.symm,hRb _ hRw⟩
theorem Xl {l:List Mv} {i:Nat} (h:∀k,k<i→((mv l k).name.toList==(mv l i).name.toList)=false):LU l i=false:=by
 unfold LU;rw[List.any_eq_false];intro k hk;rw[h k (List.mem_range.1 hk)];simp
theorem YU {l:List Mv} {i k:Nat} (hk:k<i) (h:((mv l k).name.toList==(mv l i).name.toList)=true):LU l i=true:=by
 unfold LU;rw[List.any_eq_true];exact⟨k,List.mem_range.2 hk,h⟩
theorem GI (l:List Mv) (v:Value) (S:Nat→Prop) (w:World) (h:AJ S w v l):
  Calls Tryz.prog 81 #[v] w fun e w'=>e=.returned (.int .i64 (AP l))∧Below w.heap.size w w':=by
 have h':=h;obtain⟨a,n,cap,HN,rfl,h1,h2,h3,h4⟩:=h.open;have H5:=zh (fun i (hi:i<n)=>(h.each (i:=i) (by rw[←HN.out];exact hi)));clear h;obtain⟨R,hR,hR1,_⟩:=Av w;have hRb:=hR.below;have hRd:=hR.drewN;by_cases h0:n=0
 ·have He:=zh (JS (l:=l) (by rw[←HN.out];exact h0))
  have hq:((n:Int)==0)=true:=by simpa using h0
  subst h0
  go_enter Tryz.func81, Tryz.ntmps81
  go_wp2_with fail;go_ret;exact⟨Af He.out.symm,hRb _ hR1⟩
 by_cases h8:4<n
 ·have He:=zh (JR (l:=l) (by rw[←HN.out];exact h8))
  have hq:((n:Int)==0)=false:=by simpa using h0
  clear h0
  go_enter Tryz.func81, Tryz.ntmps81
  go_wp2_with fail;go_ret;exact⟨Af He.out.symm,hRb _ hR1⟩
 ·have Hbad:=zh (fun i e (hs:An (Eb l) i=0) (hi:i<n) (he:Eb l i=e) (hne:e≠0)=>KK (by rw[←HN.out];omega) (by rw[←HN.out];omega) hs (by rw[←HN.out];exact hi) he hne)
  have Hok:=zh (fun(hs:An (Eb l) n=0)=>IX (l:=l) (by rw[←HN.out];omega) (by rw[←HN.out];omega) (by rw[←HN.out];exact hs));have hq:((n:Int)==0)=false:=by simpa using h0
  clear h0
  go_enter Tryz.func81, Tryz.ntmps81
  go_wp2_with fail;go_loopw [3] (fun i wr=>∃k:Nat,k≤n∧i=.int .i64 k∧Hid (An (Eb l) k=0)∧In R wr) (fun i _=>n-(intOf i).toNat)
  case atStart=>exact⟨0,by omega,rfl,rfl,hR1⟩
  obtain⟨k,hk,rfl,Hs,hRw⟩:=hrel;clear hR1;obtain⟨wo,rfl⟩:∃wo:World,wo=wr:=⟨_,rfl⟩;by_cases hlt:k<n
  ·obtain⟨b,off,rfl,hb,k0,k1,k2⟩:=h4 (by omega)
   have x0:=k0 k wo hlt (hRb _ hRw);have x1:=k1 k wo hlt (hRb _ hRw);have x2:=k2 k wo hlt (hRb _ hRw);have Hk0:=zh k0;have Hnm:=H5.out k hlt;have Hre:=zh (show Eb l k=if AR (mv l k).name≠0 then AR (mv l k).name else if within (mv l k).old 0 99=false∨within (mv l k).new 0 99=false then 3 else if(mv l k).old=0∧(mv l k).new=0 then 1 else if LU l k=true then 6 else 0 from rfl);have Hdn:=zh (Xl (l:=l) (i:=k));have Hd1:=zh (fun j=>YU (l:=l) (i:=k) (k:=j));clear h4 k0 k1 k2;have hi1:=zk k;have hi2:(k:Int)<(n:Int):=by omega
   have Hna:=zh (fun x=>JT (mv l k).name x Hnm.2.2);clear Hnm;by_cases hz:AR (mv l k).name=0
   ·rw[hz] at Hna
    rw[if_neg (by simp[hz])] at Hre;clear hz;cases q1:within (mv l k).old 0 99
    ·have HE:=zh (Hbad.out k 3 Hs.out hlt (by rw[Hre.out,if_pos (.inl q1)]) (by decide))
     go_wp2_with (first|(go_at_call 111;refine(Hna.out _).mono ?_;rintro e w' ⟨rfl,rfl⟩)|(go_at_call 34;refine(Ao _ _ _ _).mono ?_;rintro e w' ⟨rfl,rfl⟩));go_ret;exact⟨Af HE.out.symm,hRb _ hRw⟩
    ·cases q2:within (mv l k).new 0 99
     ·have HE:=zh (Hbad.out k 3 Hs.out hlt (by rw[Hre.out,if_pos (.inr q2)]) (by decide))
      go_wp2_with (first|(go_at_call 111;refine(Hna.out _).mono ?_;rintro e w' ⟨rfl,rfl⟩)|(go_at_call 34;refine(Ao _ _ _ _).mono ?_;rintro e w' ⟨rfl,rfl⟩));go_ret;exact⟨Af HE.out.symm,hRb _ hRw⟩
     ·have hno:¬(within (mv l k).old 0 99=false∨within (mv l k).new 0 99=false):=by simp[q1,q2]
      rw[if_neg hno] at Hre;clear hno;by_cases hm:(mv l k).old=0∧(mv l k).new=0
      ·have HE:=zh (Hbad.out k 1 Hs.out hlt (by rw[Hre.out,if_pos hm]) (by decide))
       have q3:((mv l k).old==0)=true:=by simpa using hm.1
       have q4:((mv l k).new==0)=true:=by simpa using hm.2
       clear hm;go_wp2_with (first|(go_at_call 111;refine(Hna.out _).mono ?_;rintro e w' ⟨rfl,rfl⟩)|(go_at_call 34;refine(Ao _ _ _ _).mono ?_;rintro e w' ⟨rfl,rfl⟩));go_ret;exact⟨Af HE.out.symm,hRb _ hRw⟩
      ·rw[if_neg hm] at Hre
       have hm3:((mv l k).old==0)=false∨(((mv l k).old==0)=true∧((mv l k).new==0)=false):=by
        by_cases h:(mv l k).old=0
        ·exact .inr ⟨by simpa using h,by simpa using fun h2=>hm ⟨h,h2⟩⟩
        ·exact .inl (by simpa using h)
       clear hm;rcases hm3 with q3|⟨q3,q4⟩
       all_goals
        go_wp2_with (first|(go_at_call 111;refine(Hna.out _).mono ?_;rintro e w' ⟨rfl,rfl⟩)|(go_at_call 34;refine(Ao _ _ _ _).mono ?_;rintro e w' ⟨rfl,rfl⟩));clear x1 x2;go_loopw [5] (fun i wr=>∃j:Nat,j≤k∧i=.int .i64 j∧Hid (∀i,i<j→((mv l i).name.toList==(mv l k).name.toList)=false)∧In R wr) (fun i _=>k-(intOf i).toNat)
        case atStart=>exact⟨0,by omega,rfl,fun i hi=>absurd hi (by omega),hRw⟩
        obtain⟨j,hj,rfl,Hj,hRu⟩:=hrel;by_cases hlt3:j<k
        ·have y0:=fun x hx=>Hk0.out j x (by omega) (hRb x hx)
         have z0:=fun x hx=>Hk0.out k x hlt (hRb x hx)
         have hi3:=zk j;have hi4:(j:Int)<(n:Int):=by omega
         clear hRw x0;cases hq2:((mv l j).name.toList==(mv l k).name.toList)
         ·have He:=zh hq2
          go_wp2_with fail;go_quiet (fail);have hRu2:=hRd _ nq hRu;go_wp2_with fail;go_roundw
          case rel=>exact⟨j+1,by omega,by go_num,By Hj.out He.out,hRu2⟩
          case measure=>simp[intOf];omega
         ·have HE:=zh (Hbad.out k 6 Hs.out hlt (by rw[Hre.out,if_pos (Hd1.out j hlt3 hq2)]) (by decide))
          go_wp2_with fail;go_quiet (fail);have hRu2:=hRd _ nq hRu;go_wp2_with fail;go_ret;exact⟨Af HE.out.symm,hRb _ hRu2⟩
        ·obtain rfl:j=k:=by omega
         have HN2:=zh (Ay Hs.out (show Eb l j=0 by rw[Hre.out,Hdn.out Hj.out];simp));go_wp2_with fail;go_roundw
         case rel=>exact⟨j+1,by omega,by go_num,HN2.out,hRu⟩
         case measure=>simp[intOf];omega
   ·have HE:=zh (Hbad.out k _ Hs.out hlt (by rw[Hre.out,if_pos hz]) hz)
    have hz':(AR (mv l k).name !=0)=true:=by simpa using hz
    clear hz;go_wp2_with (go_at_call 111;refine(Hna.out _).mono ?_;rintro e w' ⟨rfl,rfl⟩);go_ret;exact⟨Af HE.out.symm,hRb _ hRw⟩
  ·obtain rfl:k=n:=by omega
   have HE:=zh (Hok.out Hs.out);go_wp2_with fail;go_ret;exact⟨Af HE.out.symm,hRb _ hRw⟩
end Go.Proofs.YtgbnlmplkealdaaGreatDoor
namespace Go.Proofs
open Go.RowKit Go.Sort Go.Lib
open Go.RowKit Go.Lib
open Go.RowKit
open Go.Lib
open Go.Shelf
def Tryz.lays156_ren:Go.Shelf.Ren:=⟨fun|156=>167|165=>176|166=>177|169=>178|240=>194|241=>195|276=>207|277=>208|n=>n,fun|31=>100|9=>9|3=>3|4=>4|0=>0|20=>20|72=>202|76=>206|70=>200|37=>165|75=>205|127=>220|164=>235|5=>5|80=>208|n=>n,fun|n=>n⟩
theorem Tryz.lays156:Go.Proofs.Lays.n156 Tryz.prog Tryz.lays156_ren:={
 mixed:=by kernel_rfl
 f156:=Tryz.func167.trans (congrArg some (by kernel_rfl))
 f165:=Tryz.func176.trans (congrArg some (by kernel_rfl))
 f166:=Tryz.func177.trans (congrArg some (by kernel_rfl))
 f169:=Tryz.func178.trans (congrArg some (by kernel_rfl))
 f240:=Tryz.func194.trans (congrArg some (by kernel_rfl))
 f241:=Tryz.func195.trans (congrArg some (by kernel_rfl))
 f276:=Tryz.func207.trans (congrArg some (by kernel_rfl))
 f277:=Tryz.func208.trans (congrArg some (by kernel_rfl))
 t0:=Tryz.underlying0
 a0:=Tryz.isAgg0
 z0:=Tryz.sizeOf0
 v0:=Tryz.zeroValue0
 t3:=Tryz.underlying3
 a3:=Tryz.isAgg3
 z3:=Tryz.sizeOf3
 v3:=Tryz.zeroValue3
 t4:=Tryz.underlying4
 a4:=Tryz.isAgg4
 z4:=Tryz.sizeOf4
 v4:=Tryz.zeroValue4
 t9:=Tryz.underlying9
 a9:=Tryz.isAgg9
 z9:=Tryz.sizeOf9
 v9:=Tryz.zeroValue9
 t20:=Tryz.underlying20
 a20:=Tryz.isAgg20
 z20:=Tryz.sizeOf20
 v20:=Tryz.zeroValue20
 t31:=Tryz.underlying100
 a31:=Tryz.isAgg100
 z31:=Tryz.sizeOf100
 v31:=Tryz.zeroValue100
 t37:=Tryz.underlying165
 a37:=Tryz.isAgg165
 z37:=Tryz.sizeOf165
 v37:=Tryz.zeroValue165
 t70:=Tryz.underlying200
 a70:=Tryz.isAgg200
 z70:=Tryz.sizeOf200
 v70:=Tryz.zeroValue200
 t72:=Tryz.underlying202
 a72:=Tryz.isAgg202
 z72:=Tryz.sizeOf202
 v72:=Tryz.zeroValue202
 t75:=Tryz.underlying205
 a75:=Tryz.isAgg205
 z75:=Tryz.sizeOf205
 v75:=Tryz.zeroValue205
 t76:=Tryz.underlying206
 a76:=Tryz.isAgg206
 z76:=Tryz.sizeOf206
 v76:=Tryz.zeroValue206
 t127:=Tryz.underlying220
 a127:=Tryz.isAgg220
 z127:=Tryz.sizeOf220
 v127:=Tryz.zeroValue220
 t164:=Tryz.underlying235
 a164:=Tryz.isAgg235
 z164:=Tryz.sizeOf235
 v164:=Tryz.zeroValue235}
theorem Tryz.Builder_Extra_156:Builder.Extra Tryz.prog Tryz.lays156_ren:={
 sizeBuilder:=by kernel_rfl
 liesBuilder:=by kernel_rfl
 t5:=Tryz.underlying5
 a5:=Tryz.isAgg5
 z5:=Tryz.sizeOf5
 v5:=Tryz.zeroValue5
 infoByte:=by kernel_rfl
 cellsByte:=by kernel_rfl
 sizeByte:=by kernel_rfl
 neB5:=by decide}
theorem Tryz.strings_Join (bk o c:Nat) (xs:List ByteArray) (sep:ByteArray) (w:World) (hcells:∀(j:Nat) x,xs[j]?=some x→w.cell? ⟨bk,o+j,none⟩=some (.string x)) (hbk:bk<w.heap.size) (hN:xs.length≤140737488355328) (hcap:xs.length≤c) (hlen:(Lib.join (xs.map (·.data.toList)) sep.data.toList).length≤140737488355328):
  Calls Tryz.prog 167 #[.slice (some ⟨bk,o,none⟩) xs.length c,.string sep] w fun e w'=>e=.returned (.string ⟨(Lib.join (xs.map (·.data.toList)) sep.data.toList).toArray⟩)∧Below w.heap.size w w':=Any.strings_Join Tryz.lays156 Tryz.Builder_Extra_156 bk o c xs sep w hcells hbk hN hcap hlen
def Tryz.lays106_ren:Go.Shelf.Ren:=⟨fun|106=>165|213=>175|265=>193|n=>n,fun|9=>9|3=>3|n=>n,fun|n=>n⟩
theorem Tryz.lays106:Go.Proofs.Lays.n106 Tryz.prog Tryz.lays106_ren:={
 mixed:=by kernel_rfl
 f106:=Tryz.func165.trans (congrArg some (by kernel_rfl))
 f213:=Tryz.func175.trans (congrArg some (by kernel_rfl))
 f265:=Tryz.func193.trans (congrArg some (by kernel_rfl))
 t3:=Tryz.underlying3
 a3:=Tryz.isAgg3
 z3:=Tryz.sizeOf3
 v3:=Tryz.zeroValue3
 t9:=Tryz.underlying9
 a9:=Tryz.isAgg9
 z9:=Tryz.sizeOf9
 v9:=Tryz.zeroValue9}
theorem Tryz.strings_Compare (a b:ByteArray) (w:World):
  Calls Tryz.prog 165 #[.string a,.string b] w fun e w'=>e=.returned (.int .i64 (Lib.compareBytes a.data.toList b.data.toList))∧w'=w:=Any.strings_Compare Tryz.lays106 a b w
def Tryz.laysM171_ren:Go.Shelf.Ren:=⟨fun|171=>50|243=>74|246=>104|283=>134|284=>135|285=>136|286=>137|129=>153|317=>152|318=>154|319=>155|320=>156|337=>168|338=>169|n=>n,fun|3=>3|9=>9|2=>2|4=>4|171=>161|0=>0|53=>162|37=>165|5=>5|173=>166|212=>181|51=>182|20=>20|213=>183|46=>184|232=>209|233=>210|n=>n,fun|17=>0|18=>1|19=>2|n=>n⟩
theorem Tryz.laysM171:Go.Proofs.LaysM.n171 Tryz.prog Tryz.laysM171_ren:={
 mixed:=by kernel_rfl
 f129:=Tryz.func153.trans (congrArg some (by kernel_rfl))
 f171:=Tryz.func50.trans (congrArg some (by kernel_rfl))
 f243:=Tryz.func74.trans (congrArg some (by kernel_rfl))
 f246:=Tryz.func104.trans (congrArg some (by kernel_rfl))
 f283:=Tryz.func134.trans (congrArg some (by kernel_rfl))
 f284:=Tryz.func135.trans (congrArg some (by kernel_rfl))
 f285:=Tryz.func136.trans (congrArg some (by kernel_rfl))
 f286:=Tryz.func137.trans (congrArg some (by kernel_rfl))
 f317:=Tryz.func152.trans (congrArg some (by kernel_rfl))
 f318:=Tryz.func154.trans (congrArg some (by kernel_rfl))
 f319:=Tryz.func155.trans (congrArg some (by kernel_rfl))
 f320:=Tryz.func156.trans (congrArg some (by kernel_rfl))
 f337:=Tryz.func168.trans (congrArg some (by kernel_rfl))
 f338:=Tryz.func169.trans (congrArg some (by kernel_rfl))
 t0:=Tryz.underlying0
 a0:=Tryz.isAgg0
 z0:=Tryz.sizeOf0
 v0:=Tryz.zeroValue0
 t2:=Tryz.underlying2
 a2:=Tryz.isAgg2
 z2:=Tryz.sizeOf2
 v2:=Tryz.zeroValue2
 t3:=Tryz.underlying3
 a3:=Tryz.isAgg3
 z3:=Tryz.sizeOf3
 v3:=Tryz.zeroValue3
 t4:=Tryz.underlying4
 a4:=Tryz.isAgg4
 z4:=Tryz.sizeOf4
 v4:=Tryz.zeroValue4
 t5:=Tryz.underlying5
 a5:=Tryz.isAgg5
 z5:=Tryz.sizeOf5
 v5:=Tryz.zeroValue5
 t9:=Tryz.underlying9
 a9:=Tryz.isAgg9
 z9:=Tryz.sizeOf9
 v9:=Tryz.zeroValue9
 t20:=Tryz.underlying20
 a20:=Tryz.isAgg20
 z20:=Tryz.sizeOf20
 v20:=Tryz.zeroValue20
 t37:=Tryz.underlying165
 a37:=Tryz.isAgg165
 z37:=Tryz.sizeOf165
 v37:=Tryz.zeroValue165
 t46:=Tryz.underlying184
 a46:=Tryz.isAgg184
 z46:=Tryz.sizeOf184
 v46:=Tryz.zeroValue184
 t51:=Tryz.underlying182
 a51:=Tryz.isAgg182
 z51:=Tryz.sizeOf182
 v51:=Tryz.zeroValue182
 t53:=Tryz.underlying162
 a53:=Tryz.isAgg162
 z53:=Tryz.sizeOf162
 v53:=Tryz.zeroValue162
 t171:=Tryz.underlying161
 a171:=Tryz.isAgg161
 z171:=Tryz.sizeOf161
 v171:=Tryz.zeroValue161
 t173:=Tryz.underlying166
 a173:=Tryz.isAgg166
 z173:=Tryz.sizeOf166
 v173:=Tryz.zeroValue166
 t212:=Tryz.underlying181
 a212:=Tryz.isAgg181
 z212:=Tryz.sizeOf181
 v212:=Tryz.zeroValue181
 t213:=Tryz.underlying183
 a213:=Tryz.isAgg183
 z213:=Tryz.sizeOf183
 t232:=Tryz.underlying209
 a232:=Tryz.isAgg209
 z232:=Tryz.sizeOf209
 v232:=Tryz.zeroValue209
 t233:=Tryz.underlying210
 a233:=Tryz.isAgg210
 z233:=Tryz.sizeOf210
 v233:=Tryz.zeroValue210
 g17:=by kernel_rfl
 g18:=by kernel_rfl
 g19:=by kernel_rfl
 i0:=by kernel_rfl
 i2:=by kernel_rfl
 i3:=by kernel_rfl
 i4:=by kernel_rfl
 i5:=by kernel_rfl
 i9:=by kernel_rfl
 i20:=by kernel_rfl
 i37:=by kernel_rfl
 i46:=by kernel_rfl
 i51:=by kernel_rfl
 i53:=by kernel_rfl
 i171:=by kernel_rfl
 i173:=by kernel_rfl
 i212:=by kernel_rfl
 i232:=by kernel_rfl
 i233:=by kernel_rfl
 m17:=by kernel_rfl
 m18:=by kernel_rfl
 m19:=by kernel_rfl}
theorem Tryz.strconv_Itoa (n:Int) (h0:-9223372036854775808≤n) (h1:n≤9223372036854775807) (w:World) (htab:Lib.TabIs Tryz.prog w "internal/strconv.uint64pow10" .u64 Lib.pow10Tab):
  Calls Tryz.prog 50 #[.int .i64 n] w fun e w'=>e=.returned (.string ⟨(Lib.itoa n).toArray⟩)∧∃k os,w'=grow (w.drewN k) os:=Any.strconv_Itoa Tryz.laysM171 n h0 h1 w htab
def Tryz.lays171_ren:Go.Shelf.Ren:=⟨fun|171=>50|243=>74|246=>104|283=>134|284=>135|285=>136|286=>137|129=>153|317=>152|318=>154|319=>155|320=>156|337=>168|338=>169|n=>n,fun|3=>3|9=>9|2=>2|4=>4|171=>161|0=>0|53=>162|37=>165|5=>5|173=>166|212=>181|51=>182|20=>20|213=>183|46=>184|232=>209|233=>210|n=>n,fun|17=>0|18=>1|19=>2|n=>n⟩
theorem Tryz.lays171:Go.Proofs.Lays.n171 Tryz.prog Tryz.lays171_ren:={
 mixed:=by kernel_rfl
 f129:=Tryz.func153.trans (congrArg some (by kernel_rfl))
 f171:=Tryz.func50.trans (congrArg some (by kernel_rfl))
 f243:=Tryz.func74.trans (congrArg some (by kernel_rfl))
 f246:=Tryz.func104.trans (congrArg some (by kernel_rfl))
 f283:=Tryz.func134.trans (congrArg some (by kernel_rfl))
 f284:=Tryz.func135.trans (congrArg some (by kernel_rfl))
 f285:=Tryz.func136.trans (congrArg some (by kernel_rfl))
 f286:=Tryz.func137.trans (congrArg some (by kernel_rfl))
 f317:=Tryz.func152.trans (congrArg some (by kernel_rfl))
 f318:=Tryz.func154.trans (congrArg some (by kernel_rfl))
 f319:=Tryz.func155.trans (congrArg some (by kernel_rfl))
 f320:=Tryz.func156.trans (congrArg some (by kernel_rfl))
 f337:=Tryz.func168.trans (congrArg some (by kernel_rfl))
 f338:=Tryz.func169.trans (congrArg some (by kernel_rfl))
 t0:=Tryz.underlying0
 a0:=Tryz.isAgg0
 z0:=Tryz.sizeOf0
 v0:=Tryz.zeroValue0
 t2:=Tryz.underlying2
 a2:=Tryz.isAgg2
 z2:=Tryz.sizeOf2
 v2:=Tryz.zeroValue2
 t3:=Tryz.underlying3
 a3:=Tryz.isAgg3
 z3:=Tryz.sizeOf3
 v3:=Tryz.zeroValue3
 t4:=Tryz.underlying4
 a4:=Tryz.isAgg4
 z4:=Tryz.sizeOf4
 v4:=Tryz.zeroValue4
 t5:=Tryz.underlying5
 a5:=Tryz.isAgg5
 z5:=Tryz.sizeOf5
 v5:=Tryz.zeroValue5
 t9:=Tryz.underlying9
 a9:=Tryz.isAgg9
 z9:=Tryz.sizeOf9
 v9:=Tryz.zeroValue9
 t20:=Tryz.underlying20
 a20:=Tryz.isAgg20
 z20:=Tryz.sizeOf20
 v20:=Tryz.zeroValue20
 t37:=Tryz.underlying165
 a37:=Tryz.isAgg165
 z37:=Tryz.sizeOf165
 v37:=Tryz.zeroValue165
 t46:=Tryz.underlying184
 a46:=Tryz.isAgg184
 z46:=Tryz.sizeOf184
 v46:=Tryz.zeroValue184
 t51:=Tryz.underlying182
 a51:=Tryz.isAgg182
 z51:=Tryz.sizeOf182
 v51:=Tryz.zeroValue182
 t53:=Tryz.underlying162
 a53:=Tryz.isAgg162
 z53:=Tryz.sizeOf162
 v53:=Tryz.zeroValue162
 t171:=Tryz.underlying161
 a171:=Tryz.isAgg161
 z171:=Tryz.sizeOf161
 v171:=Tryz.zeroValue161
 t173:=Tryz.underlying166
 a173:=Tryz.isAgg166
 z173:=Tryz.sizeOf166
 v173:=Tryz.zeroValue166
 t212:=Tryz.underlying181
 a212:=Tryz.isAgg181
 z212:=Tryz.sizeOf181
 v212:=Tryz.zeroValue181
 t213:=Tryz.underlying183
 a213:=Tryz.isAgg183
 z213:=Tryz.sizeOf183
 t232:=Tryz.underlying209
 a232:=Tryz.isAgg209
 z232:=Tryz.sizeOf209
 v232:=Tryz.zeroValue209
 t233:=Tryz.underlying210
 a233:=Tryz.isAgg210
 z233:=Tryz.sizeOf210
 v233:=Tryz.zeroValue210
 g17:=by kernel_rfl
 g18:=by kernel_rfl
 g19:=by kernel_rfl}
theorem Tryz.strconv_Itoa_small (i:Nat) (hi:i<100) (w:World):
  Calls Tryz.prog 50 #[.int .i64 i] w fun e w'=>e=.returned (.string ⟨(Lib.decDigits i).toArray⟩)∧w'=w:=Any.strconv_Itoa_small Tryz.lays171 i hi w
def Tryz.lays99_ren:Go.Shelf.Ren:=⟨fun|99=>126|206=>150|n=>n,fun|9=>9|4=>4|3=>3|n=>n,fun|n=>n⟩
theorem Tryz.lays99:Go.Proofs.Lays.n99 Tryz.prog Tryz.lays99_ren:={
 mixed:=by kernel_rfl
 f99:=Tryz.func126.trans (congrArg some (by kernel_rfl))
 f206:=Tryz.func150.trans (congrArg some (by kernel_rfl))
 t3:=Tryz.underlying3
 a3:=Tryz.isAgg3
 z3:=Tryz.sizeOf3
 v3:=Tryz.zeroValue3
 t4:=Tryz.underlying4
 a4:=Tryz.isAgg4
 z4:=Tryz.sizeOf4
 v4:=Tryz.zeroValue4
 t9:=Tryz.underlying9
 a9:=Tryz.isAgg9
 z9:=Tryz.sizeOf9
 v9:=Tryz.zeroValue9}
theorem Tryz.strings_HasPrefix (s p:ByteArray) (w:World):
  Calls Tryz.prog 126 #[.string s,.string p] w fun e w'=>e=.returned (.bool (Lib.hasPrefix s.data.toList p.data.toList))∧w'=w:=Any.strings_HasPrefix Tryz.lays99 s p w
end Go.Proofs
namespace Go.Proofs.YtgbnlmplkealdaaGreatDoor
open Go.RowKit
variable [Ghost]
theorem On (r:Rf) (s:ByteArray) (w:World):
  Calls Tryz.prog 200 #[.agg #[.string r.name,.int .i64 r.id],.string s] w fun e w'=>e=.returned (.int .i64 (Jc r.name s))∧Below w.heap.size w w':=by
 have hb1:Below w.heap.size w (w.alloc (.cells #[.string r.name,.int .i64 r.id] 86)):=bal;have HC:=zh (fun x=>Tryz.strings_Compare r.name s x);unfold Jc;generalize Lib.compareBytes r.name.data.toList s.data.toList=c at*
 go_enter Tryz.func200, Tryz.ntmps200
 go_wp2_with fail;refine(HC.out _).mono ?_;rintro e w' ⟨rfl,hw⟩;subst hw;go_wp2_with fail;go_ret;exact⟨rfl,hb1⟩
theorem ZP {l:List Rf} {s:ByteArray} {i:Nat} (hi:i≤l.length) (h1:∀j,j<i→Au (rf l j).name s=true) (h2:i<l.length→Au (rf l i).name s=false):Zc l s=i:=by
 unfold Zc
 induction l generalizing i with
 |nil=>simp at hi;subst hi;rfl
 | cons x l ih=>
  cases i with
  |zero=>
   have:=h2 (by simp);rw[List.takeWhile_cons];have e:rf (x::l) 0=x:=rfl;rw[e] at this;rw[this];rfl
  |succ i=>
   have:=h1 0 (by omega);have e:rf (x::l) 0=x:=rfl;rw[e] at this;rw[List.takeWhile_cons,this];simp only[if_true,List.length_cons];rw[ih (i:=i) (by simpa using hi) (fun j hj=>h1 (j+1) (by omega)) (fun h=>h2 (by simpa using h))]
def XA (l:List Rf) (s:ByteArray):Bool:=decide (Zc l s<l.length) && (Jc (rf l (Zc l s)).name s==0)
theorem SA (l:List Rf) (v:Value) (S:Nat→Prop) (s:ByteArray) (w:World) (h:AB S w v l) (hr:KG l):
  Calls Tryz.prog 199 #[v,.string s,.func (.func 200) #[] #[]] w fun e w'=>e=.returned (.tuple #[.int .i64 (Zc l s),.bool (XA l s)])∧Below w.heap.size w w':=by
 obtain⟨a,n,cap,HN,rfl,h1,h2,h3,h4,h5⟩:=h.open;clear h h5;obtain⟨R,hR,hR1,_⟩:=Av w;have hRb:=hR.below;have hRn:=hR.next
 have Hlo:=zh (fun i (hi:i≤n) h1 h2=>ZP (l:=l) (s:=s) (i:=i) (by rw[←HN.out];exact hi) h1 h2);have Hr:=zh (JB.1 hr);clear hr
 go_enter Tryz.func199, Tryz.ntmps199
 go_wp2_with fail;go_loopg [9,10] n (fun kx s9 s10 wr=>∃i j:Nat,s9=.int .i64 i∧s10=.int .i64 j∧i≤j∧j≤n∧j-i≤kx∧In R wr∧
  Hid ((∀t,t<i→Au (rf l t).name s=true)∧(∀t,j≤t→t<n→Au (rf l t).name s=false)))
 case atStart=>exact⟨0,n,rfl,rfl,by omega,by omega,by omega,hR1,⟨fun t ht=>absurd ht (by omega),fun t h1 h2=>by omega⟩⟩
 clear hR1;obtain⟨i,j,rfl,rfl,hij,hjn,hg,hRw,I⟩:=hrel;by_cases hlt:i<j
 ·obtain⟨b,off,rfl,hb,k0,k1⟩:=h4 (by omega)
  clear h4;have m1:((i+j) / 2:Nat)<n:=by omega
  have x0:=k0 ((i+j) / 2) wr m1 (hRb _ hRw);have x1:=k1 ((i+j) / 2) wr m1 (hRb _ hRw);clear k0 k1;have Hc:=zh (MZ (rf l ((i+j) / 2)).name s);by_cases hc:Jc (rf l ((i+j) / 2)).name s<0
  ·have HC:=zh (Hc.out.1 hc)
   have hc1:decide (Jc (rf l ((i+j) / 2)).name s<0)=true:=decide_eq_true hc;clear hc;go_wp2_with (go_at_call 200;refine(On _ _ _).mono ?_;rintro e w' ⟨rfl,hb2⟩;have hR2:=hRn _ _ hRw hb2);go_roundg (j-((i+j) / 2+1))
   case measure=>omega
   have I2:Hid ((∀t,t<(i+j) / 2+1→Au (rf l t).name s=true)∧(∀t,j≤t→t<n→Au (rf l t).name s=false)):=⟨fun t ht=>by
    by_cases e:t=(i+j) / 2
    ·subst e;exact HC.out
    ·exact DM (Hr.out t ((i+j) / 2) (by omega) (by have:=HN.out;omega)) HC.out,I.out.2⟩
   exact⟨(i+j) / 2+1,j,by rw[show((i:Int)+(j:Int)) / 2+1=(((i+j) / 2+1:Nat):Int) by omega],rfl,by omega,hjn,Nat.le_refl _,hR2,I2⟩
  ·have HC:=zh (show Au (rf l ((i+j) / 2)).name s=false by
    cases e:Au (rf l ((i+j) / 2)).name s
    ·rfl
    ·exact absurd (Hc.out.2 e) hc)
   have hc1:decide (Jc (rf l ((i+j) / 2)).name s<0)=false:=decide_eq_false hc;clear hc;go_wp2_with (go_at_call 200;refine(On _ _ _).mono ?_;rintro e w' ⟨rfl,hb2⟩;have hR2:=hRn _ _ hRw hb2);go_roundg ((i+j) / 2-i)
   case measure=>omega
   have I2:Hid ((∀t,t<i→Au (rf l t).name s=true)∧(∀t,(i+j) / 2≤t→t<n→Au (rf l t).name s=false)):=⟨I.out.1,fun t ht htn=>by
    by_cases e:t=(i+j) / 2
    ·subst e;exact HC.out
    ·cases e2:Au (rf l t).name s
     ·rfl
     ·have:=DM (Hr.out ((i+j) / 2) t (by omega) (by have:=HN.out;omega)) e2
      rw[HC.out] at this;cases this⟩
   exact⟨i,(i+j) / 2,rfl,by rw[show((i:Int)+(j:Int)) / 2=(((i+j) / 2:Nat):Int) by omega],by omega,by omega,Nat.le_refl _,hR2,I2⟩
 ·obtain rfl:j=i:=by omega
  have HL:=zh (Hlo.out j hjn I.out.1 (fun h=>I.out.2 j (Nat.le_refl _) (by have:=HN.out;omega)));by_cases hn:j<n
  ·obtain⟨b,off,rfl,hb,k0,k1⟩:=h4 (by omega)
   clear h4;have x0:=k0 j wr hn (hRb _ hRw);have x1:=k1 j wr hn (hRb _ hRw);clear k0 k1;have Hn:=zh (show j<l.length by have:=HN.out;omega);cases hq:(Jc (rf l j).name s==0)
   all_goals
    have HB:=zh (show XA l s=(Jc (rf l j).name s==0) by unfold XA;rw[HL.out];simp[Hn.out]);rw[hq] at HB;go_wp2_with (go_at_call 200;refine(On _ _ _).mono ?_;rintro e w' ⟨rfl,hb2⟩;have hR2:=hRn _ _ hRw hb2);go_ret2;exact⟨Ye (congrArg _ HL.out.symm) HB.out.symm,hRb _ hR2⟩
  ·have HB:=zh (show XA l s=false by unfold XA;rw[HL.out,←HN.out];simp[hn])
   go_wp2;go_ret2;exact⟨Ye (congrArg _ HL.out.symm) HB.out.symm,hRb _ hRw⟩
def Et (B J:Nat) (ov:Value) (force:Bool) (w:World) (l:List Rf):Prop:=
 ∃v,Dr B w v l∧v.ownBlock≠some J∧w.heap[J]?=some (.cells #[v,ov,.bool force] 196 (0,0))
theorem Et.below {B J:Nat} {ov:Value} {force:Bool} {w w':World} {l:List Rf} (h:Et B J ov force w l) (hb:Below w.heap.size w w'):Et B J ov force w' l:=by
 obtain⟨v,h1,h2,h3⟩:=h;exact⟨v,h1.below hb,h2,(hb.block _ (lt_of_block h3)).trans h3⟩
theorem PO {B J:Nat} {ov:Value} {force:Bool} {w xo w9:World} {v v':Value} {l m:List Rf} (hB:B≤J) (hJw:J<w.heap.size) (hown:Dr B w v l) (hvJ:v.ownBlock≠some J) (hcJ:w.heap[J]?=some (.cells #[v,ov,.bool force] 196 (0,0)))
  (hb:Below w.heap.size w xo) (hG:Dr B w9 v' m) (hu:AK (fun b=>v.ownBlock=some b) xo w9) (hat:v'.ownBlock=v.ownBlock∨∃k,v'.ownBlock=some k∧xo.heap.size≤k):
  Et B J ov force (w9.setCell ⟨J,0,none⟩ v') m∧Below B w (w9.setCell ⟨J,0,none⟩ v'):=by
 have h1:=hb.size;have hJ9:w9.heap[J]?=some (.cells #[v,ov,.bool force] 196 (0,0)):=hu.blk ((hb.block _ hJw).trans hcJ) hvJ;have hu2:=su J 0 w9 v';have hv':v'.ownBlock≠some J:=by
  rcases hat with h|⟨k,h,hk⟩
  ·rw[h];exact hvJ
  ·rw[h];intro e;cases e;omega
 refine⟨⟨v',hG.upd hu2 (fun g hg e=>hv' (by rw[hg,e])),hv',Ah (j:=0) hJ9 v'⟩,?_⟩;exact(hb.mono (by omega)).trans ((hu.below (by omega) (fun b hb=>(hown.block hb).1)).trans (hu2.below (B:=B) (by have:=hu.size;omega) (fun b e=>by omega)))
end Go.Proofs.YtgbnlmplkealdaaGreatDoor
