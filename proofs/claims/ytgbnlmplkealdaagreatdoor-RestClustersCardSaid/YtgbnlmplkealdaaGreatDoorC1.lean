
/- ObjA: Obj1, Obj2, Obj3, Obj4, Obj5, Obj6. -/
import Derived.Test.YtgbnlmplkealdaaGreatDoorRows
import Derived.Test.YtgbnlmplkealdaaGreatDoorC0
set_option linter.all false
set_option maxHeartbeats 2000000
namespace Go.Proofs.YtgbnlmplkealdaaGreatDoor
open Go.RowKit
variable [Ghost]
theorem Ck (n lo hi:Int) (w:World):
  Calls Tryz.prog 116 #[.int .i64 n,.int .i64 lo,.int .i64 hi] w fun e w'=>e=.returned (.bool (within n lo hi))∧w=w':=by
 go_enter Tryz.func116, Tryz.ntmps116
 go_wp2
 all_goals go_ret
 all_goals (refine⟨?_,rfl⟩;simp[within, *])
 omega
theorem Ao (n lo hi:Int) (w:World):
  Calls Tryz.prog 34 #[.int .i64 n,.int .i64 lo,.int .i64 hi] w fun e w'=>e=.returned (.bool (within n lo hi))∧w=w':=by
 go_enter Tryz.func34, Tryz.ntmps34
 go_wp2
 all_goals go_ret
 all_goals (refine⟨?_,rfl⟩;simp[within, *])
 omega
theorem Af {k:IntKind} {a b:Int} (h:a=b):Ending.returned (.int k a)=.returned (.int k b):=by rw[h]
theorem KX {n:Int} {b:Bool} (h:(n==3)=b):(if n=3 then 2 else 1)=(if b then 2 else 1):=by
 have:(n==3)=decide (n=3):=rfl;rw[←h,this];by_cases hn:n=3<;>simp[hn]
theorem NJ (o:Obj):Ij o=((o.kind==1 && decide (0<o.links.length))||(o.kind==3 && decide (o.links.length<1))):=by
 have h1:(o.kind==1)=decide (o.kind=1):=rfl;have h3:(o.kind==3)=decide (o.kind=3):=rfl;have h4:decide (o.links.length<1)=decide (o.links.length=0):=by rw[decide_eq_decide];omega
 rw[h1,h3,h4];rfl
theorem Vr (o:Obj) (lv:Value) (S:Nat→Prop) (w:World) (ho:Bu S w o lv) (hi:within o.id 1 99=true):
  Calls Tryz.prog 117 #[.agg #[.int .i64 o.id,.int .i64 o.kind,lv,.string o.text]] w fun e w'=>e=.returned (.int .i64 (Cv o))∧Below w.heap.size w w':=by
 obtain⟨a,n,cap,HN,rfl,hc1,hc2,hc8,hc⟩:=ho.1.open;have hid:=BH hi;have hb0:Below w.heap.size w w:=Below.refl _ _;have hb1:=DF w;have Hfb:=zh (NJ o);clear hi;cases hk3:(o.kind==3)
 ·have Hk3:=zh hk3
  go_enter Tryz.func117, Tryz.ntmps117
  go_wp2;go_loopw [12] (fun i wr=>∃k:Nat,k≤n∧i=.int .i64 k∧An (Cl o) k=0∧wr=w.alloc (.cells #[.int .i64 o.id,.int .i64 o.kind,.slice a n cap,.string o.text] 96)) (fun i _=>n-(intOf i).toNat)
  case atStart=>exact⟨0,by omega,rfl,rfl,rfl⟩
  obtain⟨k,hk,rfl,hs,rfl⟩:=hrel;have Hsc:=zh hs;clear hs;by_cases hlt:k<n
  ·obtain⟨b,off,rfl,hb,hcell⟩:=hc (by omega)
   clear hc;cases hw:within (Ct o.links k) 1 (o.id-1)
   ·go_wp2_with (go_at_call 116;refine(Ck _ _ _ _).mono ?_;rintro e w' ⟨rfl,rfl⟩)
    go_ret;exact⟨Af (Dk Hsc.out (Gr hw) (by omega) (by have:=HN.out;omega)).symm,hb1 _ _ hb0⟩
   ·have Hst:=zh (Gs hw)
    have Hokk:=zh (Kx hw);have hsp:(if o.kind=3 then 2 else 1)=1:=KX Hk3.out;have hkm:1≤k→∀x,Below w.heap.size w x→x.cell? ⟨b,off+(k-1),none⟩=some (.int .i64 (Ct o.links (k-1))):=fun _ x hx=>hcell (k-1) x (by omega) hx
    rw[hsp] at Hst Hokk;clear hsp;by_cases hf:1≤k
    ·have hkm':=hkm (by omega)
     clear hkm;by_cases hle:Ct o.links k≤Ct o.links (k-1)
     ·go_wp2_with (go_at_call 116;refine(Ck _ _ _ _).mono ?_;rintro e w' ⟨rfl,rfl⟩)
      go_ret;exact⟨Af (Dk Hsc.out (Hst.out hf hle) (by omega) (by have:=HN.out;omega)).symm,hb1 _ _ hb0⟩
     ·go_wp2_with (go_at_call 116;refine(Ck _ _ _ _).mono ?_;rintro e w' ⟨rfl,rfl⟩)
      go_roundw
      case rel=>exact⟨k+1,by omega,by go_num,Ay Hsc.out (Hokk.out (by omega)),trivial⟩
      case measure=>simp[intOf];omega
    ·clear hkm
     go_wp2_with (go_at_call 116;refine(Ck _ _ _ _).mono ?_;rintro e w' ⟨rfl,rfl⟩);go_roundw
     case rel=>exact⟨k+1,by omega,by go_num,Ay Hsc.out (Hokk.out (by omega)),trivial⟩
     case measure=>simp[intOf];omega
  ·obtain rfl:k=n:=by omega
   have hz:An (Cl o) o.links.length=0:=by rw[←HN.out];exact Hsc.out
   have hnn:(k<1∧Hid (decide (0<o.links.length)=false∧decide (o.links.length<1)=true))∨(0<k∧Hid (decide (0<o.links.length)=true∧decide (o.links.length<1)=false)):=by
    rw[←HN.out];unfold Hid;simp only[decide_eq_true_eq,decide_eq_false_iff_not];omega
   have Hok:=zh (Jk hz);have Hbad:=zh (Gt hz);clear hz;cases hk1:(o.kind==1)<;>rcases hnn with⟨hnn,Hd⟩|⟨hnn,Hd⟩
   all_goals
    go_wp2;go_ret;refine⟨?_,hb1 _ _ hb0⟩
    first
     |exact Af (Hok.out (by rw[Hfb.out,Hk3.out,hk1,Hd.out.1,Hd.out.2];rfl)).symm
     |exact Af (Hbad.out (by rw[Hfb.out,Hk3.out,hk1,Hd.out.1,Hd.out.2];rfl)).symm
 ·have Hk3:=zh hk3
  go_enter Tryz.func117, Tryz.ntmps117
  go_wp2;go_loopw [12] (fun i wr=>∃k:Nat,k≤n∧i=.int .i64 k∧An (Cl o) k=0∧wr=w.alloc (.cells #[.int .i64 o.id,.int .i64 o.kind,.slice a n cap,.string o.text] 96)) (fun i _=>n-(intOf i).toNat)
  case atStart=>exact⟨0,by omega,rfl,rfl,rfl⟩
  obtain⟨k,hk,rfl,hs,rfl⟩:=hrel;have Hsc:=zh hs;clear hs;by_cases hlt:k<n
  ·obtain⟨b,off,rfl,hb,hcell⟩:=hc (by omega)
   clear hc;cases hw:within (Ct o.links k) 1 (o.id-1)
   ·go_wp2_with (go_at_call 116;refine(Ck _ _ _ _).mono ?_;rintro e w' ⟨rfl,rfl⟩)
    go_ret;exact⟨Af (Dk Hsc.out (Gr hw) (by omega) (by have:=HN.out;omega)).symm,hb1 _ _ hb0⟩
   ·have Hst:=zh (Gs hw)
    have Hokk:=zh (Kx hw);have hsp:(if o.kind=3 then 2 else 1)=2:=KX Hk3.out;have hkm:1≤k→∀x,Below w.heap.size w x→x.cell? ⟨b,off+(k-1),none⟩=some (.int .i64 (Ct o.links (k-1))):=fun _ x hx=>hcell (k-1) x (by omega) hx
    rw[hsp] at Hst Hokk;clear hsp;by_cases hf:2≤k
    ·have hkm':=hkm (by omega)
     clear hkm;by_cases hle:Ct o.links k≤Ct o.links (k-1)
     ·go_wp2_with (go_at_call 116;refine(Ck _ _ _ _).mono ?_;rintro e w' ⟨rfl,rfl⟩)
      go_ret;exact⟨Af (Dk Hsc.out (Hst.out hf hle) (by omega) (by have:=HN.out;omega)).symm,hb1 _ _ hb0⟩
     ·go_wp2_with (go_at_call 116;refine(Ck _ _ _ _).mono ?_;rintro e w' ⟨rfl,rfl⟩)
      go_roundw
      case rel=>exact⟨k+1,by omega,by go_num,Ay Hsc.out (Hokk.out (by omega)),trivial⟩
      case measure=>simp[intOf];omega
    ·clear hkm
     go_wp2_with (go_at_call 116;refine(Ck _ _ _ _).mono ?_;rintro e w' ⟨rfl,rfl⟩);go_roundw
     case rel=>exact⟨k+1,by omega,by go_num,Ay Hsc.out (Hokk.out (by omega)),trivial⟩
     case measure=>simp[intOf];omega
  ·obtain rfl:k=n:=by omega
   have hz:An (Cl o) o.links.length=0:=by rw[←HN.out];exact Hsc.out
   have hnn:(k<1∧Hid (decide (0<o.links.length)=false∧decide (o.links.length<1)=true))∨(0<k∧Hid (decide (0<o.links.length)=true∧decide (o.links.length<1)=false)):=by
    rw[←HN.out];unfold Hid;simp only[decide_eq_true_eq,decide_eq_false_iff_not];omega
   have Hok:=zh (Jk hz);have Hbad:=zh (Gt hz);clear hz;cases hk1:(o.kind==1)<;>rcases hnn with⟨hnn,Hd⟩|⟨hnn,Hd⟩
   all_goals
    go_wp2;go_ret;refine⟨?_,hb1 _ _ hb0⟩
    first
     |exact Af (Hok.out (by rw[Hfb.out,Hk3.out,hk1,Hd.out.1,Hd.out.2];rfl)).symm
     |exact Af (Hbad.out (by rw[Hfb.out,Hk3.out,hk1,Hd.out.1,Hd.out.2];rfl)).symm
variable [Ghost]
theorem LO (o:Obj) (lv:Value) (S:Nat→Prop) (w:World) (ho:Bu S w o lv):
  Calls Tryz.prog 94 #[.agg #[.int .i64 o.id,.int .i64 o.kind,lv,.string o.text]] w fun e w'=>e=.returned (.int .i64 (Aw o))∧Below w.heap.size w w':=by
 have ho':=ho;obtain⟨a,n,cap,HN,rfl,hc1,hc2,hc8,hc⟩:=ho.1.open;have htx:o.text.size≤140737488351232:=ho.2.2.2;have hb0:Below w.heap.size w w:=Below.refl _ _;have hb1:=DF w;have Hc:=zh (show Aw o=if within o.id 1 99=false then 3 else if within o.kind 1 3=false then 7 else if 4<n∨8<o.text.size then 2 else Cv o by rw[HN.out];rfl);clear hc;cases hw1:within o.id 1 99
 ·go_enter Tryz.func94, Tryz.ntmps94
  go_wp2_with (go_at_call 116;refine(Ck _ _ _ _).mono ?_;rintro e w' ⟨rfl,rfl⟩);go_ret;exact⟨Af (by rw[Hc.out];simp[hw1]),hb1 _ _ hb0⟩
 ·cases hw2:within o.kind 1 3
  ·go_enter Tryz.func94, Tryz.ntmps94
   go_wp2_with (go_at_call 116;refine(Ck _ _ _ _).mono ?_;rintro e w' ⟨rfl,rfl⟩);go_ret;exact⟨Af (by rw[Hc.out];simp[hw1,hw2]),hb1 _ _ hb0⟩
  ·by_cases h4:4<n
   ·go_enter Tryz.func94, Tryz.ntmps94
    go_wp2_with (go_at_call 116;refine(Ck _ _ _ _).mono ?_;rintro e w' ⟨rfl,rfl⟩);go_ret;exact⟨Af (by rw[Hc.out];simp[hw1,hw2,h4]),hb1 _ _ hb0⟩
   ·by_cases h8:8<o.text.size
    ·go_enter Tryz.func94, Tryz.ntmps94
     go_wp2_with (go_at_call 116;refine(Ck _ _ _ _).mono ?_;rintro e w' ⟨rfl,rfl⟩);go_ret;exact⟨Af (by rw[Hc.out];simp[hw1,hw2,h8]),hb1 _ _ hb0⟩
    ·go_enter Tryz.func94, Tryz.ntmps94
     go_wp2_with (first
      |(go_at_call 116;refine(Ck _ _ _ _).mono ?_;rintro e w' ⟨rfl,rfl⟩)
      |(go_at_call 117;refine(Vr o _ _ _ (ho'.below (hb1 _ _ hb0)) hw1).mono ?_;rintro e w' ⟨rfl,hb2⟩))
     go_ret;exact⟨Af (by rw[Hc.out];simp[hw1,hw2,h4,h8]),Al (hb1 _ _ hb0) hb2⟩
theorem Ed (o:Obj) (lv:Value) (S:Nat→Prop) (w:World) (ho:Bu S w o lv):
  Calls Tryz.prog 80 #[.agg #[.int .i64 o.id,.int .i64 o.kind,lv,.string o.text]] w fun e w'=>e=.returned (.int .i64 (Aw o))∧Below w.heap.size w w':=by
 obtain⟨a,n,cap,HN,rfl,hc1,hc2,hc8,hc⟩:=ho.1.open;have htx:o.text.size≤140737488351232:=ho.2.2.2;have hb0:Below w.heap.size w w:=Below.refl _ _;have hb1:=DF w;have hb2:=CA w;have hb3:=Kq w;have Hc:=zh (show Aw o=if within o.id 1 99=false then 3 else if within o.kind 1 3=false then 7 else if 4<n∨8<o.text.size then 2 else Cv o by rw[HN.out];rfl);have Hfb:=zh (NJ o);cases hw1:within o.id 1 99
 ·go_enter Tryz.func80, Tryz.ntmps80
  go_wp2_with (go_at_call 34;refine(Ao _ _ _ _).mono ?_;rintro e w' ⟨rfl,rfl⟩);go_ret;exact⟨Af (by rw[Hc.out];simp[hw1]),hb1 _ _ hb0⟩
 ·have hid:=BH hw1
  cases hw2:within o.kind 1 3
  ·go_enter Tryz.func80, Tryz.ntmps80
   go_wp2_with (go_at_call 34;refine(Ao _ _ _ _).mono ?_;rintro e w' ⟨rfl,rfl⟩);go_ret;exact⟨Af (by rw[Hc.out];simp[hw1,hw2]),hb1 _ _ hb0⟩
  ·by_cases h4:4<n
   ·go_enter Tryz.func80, Tryz.ntmps80
    go_wp2_with (go_at_call 34;refine(Ao _ _ _ _).mono ?_;rintro e w' ⟨rfl,rfl⟩);go_ret;exact⟨Af (by rw[Hc.out];simp[hw1,hw2,h4]),hb1 _ _ hb0⟩
   ·by_cases h8:8<o.text.size
    ·go_enter Tryz.func80, Tryz.ntmps80
     go_wp2_with (go_at_call 34;refine(Ao _ _ _ _).mono ?_;rintro e w' ⟨rfl,rfl⟩);go_ret;exact⟨Af (by rw[Hc.out];simp[hw1,hw2,h8]),hb1 _ _ hb0⟩
    ·have He:=zh (show Aw o=Cv o by rw[Hc.out];simp[hw1,hw2,h4,h8])
     clear Hc
     go_enter Tryz.func80, Tryz.ntmps80
     go_wp2_with (go_at_call 34;refine(Ao _ _ _ _).mono ?_;rintro e w' ⟨rfl,rfl⟩);clear hw1 hw2;obtain⟨R,hR,hR1,hx0,hx1,hx2,hx3⟩:=Ev w (.int .i64 o.id) (.int .i64 o.kind) (.slice a n cap) (.string o.text) 96;have hRb:=hR.below;have hRn:=hR.drewN;have hRd:=hR.drew;clear hb1 hb2 hb3 hb0;go_loopw [3] (fun i wr=>∃k:Nat,k≤n∧i=.int .i64 k∧An (Cl o) k=0∧In R wr) (fun i _=>n-(intOf i).toNat)
     case atStart=>exact⟨0,by omega,rfl,rfl,hR1⟩
     obtain⟨k,hk,rfl,hs,hRw⟩:=hrel;clear hR1;have Hsc:=zh hs;clear hs;by_cases hlt:k<n
     ·obtain⟨b,off,rfl,hb,hcell⟩:=hc (by omega)
      clear hc;have hck:∀x,In R x→x.cell? ⟨b,off+k,none⟩=some (.int .i64 (Ct o.links k)):=fun x hx=>hcell k x hlt (hRb x hx)
      have hkm:1≤k→∀x,In R x→x.cell? ⟨b,off+(k-1),none⟩=some (.int .i64 (Ct o.links (k-1))):=fun _ x hx=>hcell (k-1) x (by omega) (hRb x hx)
      clear hcell;have hi1:=zk k;have hi2:(k:Int)<(n:Int):=by omega
      have hwr:=Be (n:=o.id-1) (by omega);cases hw:within (Ct o.links k) 1 (o.id-1)
      ·go_wp2_with fail
       go_quiet ((go_at_call 34;exact BV (Ao _ _ _ _)));go_wp2;go_ret;exact⟨Af (by rw[He.out];exact(Dk Hsc.out (Gr hw) (by omega) (by have:=HN.out;omega)).symm),hRb _ (hRn _ _ hRw)⟩
      ·have Hst:=zh (Gs hw)
       have Hokk:=zh (Kx hw);go_wp2_with fail;go_quiet ((go_at_call 34;exact BV (Ao _ _ _ _)));clear hwr;have hRw':=hRn _ nq hRw;generalize wr.drewN nq=wr' at*;clear hRw;by_cases hk0:0<k
       ·have hkm':=hkm hk0
        clear hkm;have hi3:(0:Int)≤(k:Int)-1:=by omega
        have hi4:(1:Int)≤(k:Int):=by omega
        have hi5:(k:Int)-1<(n:Int):=by omega
        have hi6:(0:Int)<(k:Int):=by omega
        have hwr2:=Be (n:=(k:Int)-1) (by omega);have htn:((k:Int)-1).toNat=k-1:=by omega
        cases hk3:(o.kind==3)
        ·rw[show(if o.kind=3 then 2 else 1)=1 from KX hk3] at Hst Hokk
         by_cases hle:Ct o.links k≤Ct o.links (k-1)
         ·have hf:1≤k:=hk0
          go_wp2_with fail;go_quiet (fail);go_wp2;go_ret;exact⟨Af (by rw[He.out];exact(Dk Hsc.out (Hst.out hf hle) (by omega) (by have:=HN.out;omega)).symm),hRb _ (hRn _ _ hRw')⟩
         ·go_wp2_with fail
          go_quiet (fail);go_wp2;go_roundw
          case rel=>exact⟨k+1,by omega,by go_num,Ay Hsc.out (Hokk.out (by omega)),hRn _ _ hRw'⟩
          case measure=>simp[intOf];omega
        ·rw[show(if o.kind=3 then 2 else 1)=2 from KX hk3] at Hst Hokk
         by_cases hk1:2≤k
         ·have hq:((k:Int)==1)=false:=by simp;omega
          by_cases hle:Ct o.links k≤Ct o.links (k-1)
          ·have hf:=hk1
           go_wp2_with fail;go_quiet (fail);go_wp2;go_ret;exact⟨Af (by rw[He.out];exact(Dk Hsc.out (Hst.out hf hle) (by omega) (by have:=HN.out;omega)).symm),hRb _ (hRn _ _ hRw')⟩
          ·go_wp2_with fail
           go_quiet (fail);go_wp2;go_roundw
           case rel=>exact⟨k+1,by omega,by go_num,Ay Hsc.out (Hokk.out (by omega)),hRn _ _ hRw'⟩
           case measure=>simp[intOf];omega
         ·have hq:((k:Int)==1)=true:=by simp;omega
          go_wp2_with fail;go_quiet (fail);go_wp2;go_roundw
          case rel=>exact⟨k+1,by omega,by go_num,Ay Hsc.out (Hokk.out (by omega)),hRn _ _ hRw'⟩
          case measure=>simp[intOf];omega
       ·clear hkm
        have hd:decide ((0:Int)<(k:Int))=false:=by simp;omega
        have Hf:=zh (show¬(if o.kind=3 then 2 else 1)≤k by split<;>omega);go_wp2_with fail;go_quiet (fail);go_wp2;go_roundw
        case rel=>exact⟨k+1,by omega,by go_num,Ay Hsc.out (Hokk.out (fun h=>Hf.out h.1)),hRn _ _ hRw'⟩
        case measure=>simp[intOf];omega
     ·obtain rfl:k=n:=by omega
      have hz:An (Cl o) o.links.length=0:=by rw[←HN.out];exact Hsc.out
      have hnn:(k<1∧Hid (decide (0<o.links.length)=false∧decide (o.links.length<1)=true))∨(0<k∧Hid (decide (0<o.links.length)=true∧decide (o.links.length<1)=false)):=by
       rw[←HN.out];unfold Hid;simp only[decide_eq_true_eq,decide_eq_false_iff_not];omega
      have Hok:=zh (Jk hz);have Hbad:=zh (Gt hz);clear hz;cases hk3:(o.kind==3)<;>cases hk1:(o.kind==1)<;>rcases hnn with⟨hnn,Hd⟩|⟨hnn,Hd⟩
      all_goals
       go_wp2;go_ret;refine⟨?_,hRb _ hRw⟩
       first
        |exact Af (by rw[He.out,Hok.out (by rw[Hfb.out,hk3,hk1,Hd.out.1,Hd.out.2];rfl)])
        |exact Af (by rw[He.out,Hbad.out (by rw[Hfb.out,hk3,hk1,Hd.out.1,Hd.out.2];rfl)])
variable [Ghost]
theorem Tryz.infoByte:(Tryz.prog.info? 5).map (fun i=>(i.zero,i.size,i.bytes))=some (some (.int .u8 0),1,1):=by kernel_rfl
variable [Ghost]
variable [Ghost]
theorem QM (xs ys:List Int) (v v':Value) (S S':Nat→Prop) (w:World) (h1:Bb S w v xs) (h2:Bb S' w v' ys):
  Calls Tryz.prog 92 #[v,v'] w fun e w'=>e=.returned (.bool (CV xs ys))∧Below w.heap.size w w':=by
 obtain⟨a,n,cap,HN,rfl,hc1,hc2,hc8,hc⟩:=h1.open;obtain⟨a',n',cap',HN',rfl,hc1',hc2',hc8',hc'⟩:=h2.open;obtain⟨R,hR,hR1,_⟩:=Av w;have hRb:=hR.below;have hRn:=hR.drewN;by_cases hl:n=n'
 ·subst hl
  have Hall:=zh (Ln (xs:=xs) (ys:=ys) (by rw[←HN.out,←HN'.out]))
  go_enter Tryz.func92, Tryz.ntmps92
  go_wp2;go_loopw [5] (fun i wr=>∃k:Nat,k≤n∧i=.int .i64 k∧Hid (∀j,j<k→Ct xs j=Ct ys j)∧In R wr) (fun i _=>n-(intOf i).toNat)
  case atStart=>exact⟨0,by omega,rfl,fun j hj=>absurd hj (by omega),hR1⟩
  obtain⟨k,hk,rfl,Hs,hRw⟩:=hrel;clear hR1;by_cases hlt:k<n
  ·obtain⟨b,off,rfl,hb,hcell⟩:=hc (by omega)
   obtain⟨b',off',rfl,hb',hcell'⟩:=hc' (by omega);have hck:∀x,In R x→x.cell? ⟨b,off+k,none⟩=some (.int .i64 (Ct xs k)):=fun x hx=>hcell k x hlt (hRb x hx)
   have hck':∀x,In R x→x.cell? ⟨b',off'+k,none⟩=some (.int .i64 (Ct ys k)):=fun x hx=>hcell' k x hlt (hRb x hx)
   clear hc hc' hcell hcell';have hi1:=zk k;have hi2:(k:Int)<(n:Int):=by omega
   by_cases he:Ct xs k=Ct ys k
   ·have hq:(Ct xs k !=Ct ys k)=false:=by simpa using he
    have He:=zh he;clear he;go_wp2_with fail;go_quiet (fail);go_wp2;go_roundw
    case rel=>exact⟨k+1,by omega,by go_num,By Hs.out He.out,hRn _ _ hRw⟩
    case measure=>simp[intOf];omega
   ·have hq:(Ct xs k !=Ct ys k)=true:=by simpa using he
    have Hq:=zh (MD he);clear he;go_wp2_with fail;go_quiet (fail);go_wp2;go_ret;exact⟨by rw[Hq.out];rfl,hRb _ (hRn _ _ hRw)⟩
  ·have Hk:=zh (show CV xs ys=true from Hall.out (fun j hj=>Hs.out j (by have:=HN.out;omega)))
   go_wp2;go_ret;exact⟨by rw[Hk.out];rfl,hRb _ hRw⟩
 ·have Hl:=zh (Lo (xs:=xs) (ys:=ys) (by rw[←HN.out,←HN'.out];exact hl))
  go_enter Tryz.func92, Tryz.ntmps92
  go_wp2;go_ret;exact⟨by rw[Hl.out];rfl,hRb _ hR1⟩
theorem FS (o p:Obj) (lv lv':Value) (S S':Nat→Prop) (w:World) (ho:Bu S w o lv) (hp:Bu S' w p lv'):
  Calls Tryz.prog 66 #[.agg #[.int .i64 o.id,.int .i64 o.kind,lv,.string o.text],.agg #[.int .i64 p.id,.int .i64 p.kind,lv',.string p.text]] w
   fun e w'=>e=.returned (.bool (BG o p))∧Below w.heap.size w w':=by
 obtain⟨q,rfl⟩:=ho.1.shape;obtain⟨q',rfl⟩:=hp.1.shape;have hb0:Below w.heap.size w w:=Below.refl _ _;have hb1:=DF w;have Hd:=zh (show BG o p=((o.id==p.id) && (o.kind==p.kind) && (o.text.toList==p.text.toList) && CV o.links p.links) from rfl);cases e1:(o.id==p.id)
 ·go_enter Tryz.func66, Tryz.ntmps66
  go_wp2;go_ret;exact⟨by rw[Hd.out,e1];rfl,hb1 _ _ (hb1 _ _ hb0)⟩
 ·cases e2:(o.kind==p.kind)
  ·go_enter Tryz.func66, Tryz.ntmps66
   go_wp2;go_ret;exact⟨by rw[Hd.out,e1,e2];rfl,hb1 _ _ (hb1 _ _ hb0)⟩
  ·cases e3:(o.text.toList==p.text.toList)
   ·go_enter Tryz.func66, Tryz.ntmps66
    go_wp2;go_ret;exact⟨by rw[Hd.out,e1,e2,e3];rfl,hb1 _ _ (hb1 _ _ hb0)⟩
   ·go_enter Tryz.func66, Tryz.ntmps66
    go_wp2_with (go_at_call 92;refine(QM o.links p.links _ _ _ _ _ (ho.1.below (hb1 _ _ (hb1 _ _ hb0))) (hp.1.below (hb1 _ _ (hb1 _ _ hb0)))).mono ?_;rintro e w' ⟨rfl,hb2⟩);go_ret;exact⟨by rw[Hd.out,e1,e2,e3];rfl,Al (hb1 _ _ (hb1 _ _ hb0)) hb2⟩
def Wy (w w':World) (e:Ending) (l:List Obj):Prop:=∃v,e=.returned v∧Ai (fun b=>w.heap.size≤b) w' v l∧Below w.heap.size w w'
def UG:ByteArray:=⟨#[116]⟩
def DL:List Obj:=[⟨1,1,[],UG⟩,⟨2,2,[1],UG⟩,⟨3,3,[2],UG⟩,⟨4,2,[1,2],UG⟩,⟨5,3,[4,3],UG⟩]
theorem Lf (id kind:Int) (a:Option Addr) (n c:Nat) (w:World):
  Calls Tryz.prog 51 #[.int .i64 id,.int .i64 kind,.slice a n c] w
   fun e w'=>e=.returned (.agg #[.int .i64 id,.int .i64 kind,.slice a n c,.string UG])∧Below w.heap.size w w':=by
 go_enter Tryz.func51, Tryz.ntmps51
 go_wp2;exact bodyPost_ret (v:=.agg #[.int .i64 id,.int .i64 kind,.slice a n c,.string UG]) (by simp[results,Tryz.results51,go_sem];rfl) rfl ⟨rfl,by simpa using bal⟩
theorem AI (x:Int) (h:0≤x∧x≤1000):Dy x:=by unfold Dy;omega
theorem VR {w w1 w2 w3 w4 w5:World} {t tt:TypeId} (hb1:Below w.heap.size w w1)
  (hb2:Below (w1.alloc (.cells #[.int .i64 1] t)).heap.size (w1.alloc (.cells #[.int .i64 1] t)) w2)
  (hb3:Below (w2.alloc (.cells #[.int .i64 2] t)).heap.size (w2.alloc (.cells #[.int .i64 2] t)) w3)
  (hb4:Below (w3.alloc (.cells #[.int .i64 1,.int .i64 2] t)).heap.size (w3.alloc (.cells #[.int .i64 1,.int .i64 2] t)) w4)
  (hb5:Below (w4.alloc (.cells #[.int .i64 4,.int .i64 3] t)).heap.size (w4.alloc (.cells #[.int .i64 4,.int .i64 3] t)) w5):
  Ai (fun b=>w.heap.size≤b) (w5.alloc (.cells #[.int .i64 1,.int .i64 1,.slice none 0 0,.string UG,.int .i64 2,.int .i64 2,.slice (some ⟨w1.heap.size,0,none⟩) 1 1,.string UG,
    .int .i64 3,.int .i64 3,.slice (some ⟨w2.heap.size,0,none⟩) 1 1,.string UG,.int .i64 4,.int .i64 2,.slice (some ⟨w3.heap.size,0,none⟩) 2 2,.string UG,
    .int .i64 5,.int .i64 3,.slice (some ⟨w4.heap.size,0,none⟩) 2 2,.string UG] tt)) (.slice (some ⟨w5.heap.size,0,none⟩) 5 5) DL∧Below w.heap.size w w5:=by
 have a2:=(Below.refl w1.heap.size w1).alloc (Nat.le_refl _) (.cells #[.int .i64 1] t);have a3:=(Below.refl w2.heap.size w2).alloc (Nat.le_refl _) (.cells #[.int .i64 2] t);have a4:=(Below.refl w3.heap.size w3).alloc (Nat.le_refl _) (.cells #[.int .i64 1,.int .i64 2] t);have a5:=(Below.refl w4.heap.size w4).alloc (Nat.le_refl _) (.cells #[.int .i64 4,.int .i64 3] t);have c2:=Al hb1 (Al a2 hb2);have c3:=Al c2 (Al a3 hb3);have c4:=Al c3 (Al a4 hb4);have c5:=Al c4 (Al a5 hb5);have s1:=hb1.size;have s2:=c2.size;have s3:=c3.size;have s4:=c4.size;have s5:=c5.size;have i1:=((((GN w1 [1] t _ rfl (by simp) (by intro x hx;simp only[List.mem_cons,List.not_mem_nil,or_false] at hx;subst hx;exact AI _ (by omega))).below hb2).below (Al a3 hb3)).below (Al a4 hb4)).below (Al a5 hb5);have i2:=(((GN w2 [2] t _ rfl (by simp) (by intro x hx;simp only[List.mem_cons,List.not_mem_nil,or_false] at hx;subst hx;exact AI _ (by omega))).below hb3).below (Al a4 hb4)).below (Al a5 hb5);have i3:=((GN w3 [1,2] t _ rfl (by simp) (by intro x hx;simp only[List.mem_cons,List.not_mem_nil,or_false] at hx;rcases hx with rfl|rfl<;>exact AI _ (by omega))).below hb4).below (Al a5 hb5);have i4:=(GN w4 [4,3] t _ rfl (by simp) (by intro x hx;simp only[List.mem_cons,List.not_mem_nil,or_false] at hx;rcases hx with rfl|rfl<;>exact AI _ (by omega))).below hb5;refine⟨?_,c5⟩;have h:=VT (S:=fun b=>w.heap.size≤b) w5 DL (fun i=>[.slice none 0 0,.slice (some ⟨w1.heap.size,0,none⟩) 1 1,.slice (some ⟨w2.heap.size,0,none⟩) 1 1,.slice (some ⟨w3.heap.size,0,none⟩) 2 2,.slice (some ⟨w4.heap.size,0,none⟩) 2 2].getD i .nilFunc) tt _ rfl (by decide) (fun i hi=>?_)
 ·exact h.weaken fun b hb=>by rcases hb with rfl|hb;exact s5;exact hb
 ·have ht:UG.size≤140737488351232:=by decide
  match i,hi with
  |0,_=>exact⟨Bb.nil _ _ _ _ (by omega),AI _ (by decide),AI _ (by decide),ht⟩
  |1,_=>exact⟨i1.weaken fun b hb=>by subst hb;exact s1,AI _ (by decide),AI _ (by decide),ht⟩
  |2,_=>exact⟨i2.weaken fun b hb=>by subst hb;exact s2,AI _ (by decide),AI _ (by decide),ht⟩
  |3,_=>exact⟨i3.weaken fun b hb=>by subst hb;exact s3,AI _ (by decide),AI _ (by decide),ht⟩
  |4,_=>exact⟨i4.weaken fun b hb=>by subst hb;exact s4,AI _ (by decide),AI _ (by decide),ht⟩
theorem Mf (w:World):Calls Tryz.prog 25 #[] w fun e w'=>Wy w w' e DL:=by
 go_enter Tryz.func25, Tryz.ntmps25
 go_wp2_with fail;refine(Lf _ _ _ _ _ _).mono ?_;rintro e w1 ⟨rfl,hb1⟩;go_wp2_with fail;refine(Lf _ _ _ _ _ _).mono ?_;rintro e w2 ⟨rfl,hb2⟩;go_wp2_with fail;refine(Lf _ _ _ _ _ _).mono ?_;rintro e w3 ⟨rfl,hb3⟩;go_wp2_with fail;refine(Lf _ _ _ _ _ _).mono ?_;rintro e w4 ⟨rfl,hb4⟩;go_wp2_with fail;refine(Lf _ _ _ _ _ _).mono ?_;rintro e w5 ⟨rfl,hb5⟩;have HE:=zh (VR (tt:=96) hb1 hb2 hb3 hb4 hb5);clear hb1 hb2 hb3 hb4 hb5;go_wp2;go_ret;exact⟨_,rfl,HE.out.1,HE.out.2.alloc HE.out.2.size _⟩
variable [Ghost]
end Go.Proofs.YtgbnlmplkealdaaGreatDoor
