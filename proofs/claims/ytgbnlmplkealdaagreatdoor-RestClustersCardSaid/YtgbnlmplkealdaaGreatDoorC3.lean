
/- RefsA: Refs1, Refs2, Refs3, Refs4, Refs5, Refs6. -/
import Derived.Test.YtgbnlmplkealdaaGreatDoorC2
import Derived.Deep.AppendLies
import Derived.Deep.RegionLaw
import Derived.Recover
import Derived.Defers
import Derived.RegionTactic
import Derived.BigRegion
import Derived.Deep.Upon
set_option linter.all false
set_option maxHeartbeats 4000000
set_option maxRecDepth 100000
namespace Go.Proofs.YtgbnlmplkealdaaGreatDoor
open Go.RowKit
variable [Ghost]
theorem Lu (c:Int) (w:World):Calls Tryz.prog 146 #[.int .u8 c] w fun e w'=>e=.returned (.bool (OF c))∧w=w':=by
  have hq:(c==45)=decide (c=45):=rfl;unfold OF;rw[hq];by_cases h1:97≤c<;>by_cases h2:c≤122<;>by_cases h3:48≤c<;>by_cases h4:c≤57<;>by_cases h5:c=45
  all_goals first
    |(exfalso;omega)
    | (have hq5:(c==45)=decide (c=45):=rfl
       simp only[h5,decide_true,decide_false] at hq5
       go_enter Tryz.func146, Tryz.ntmps146
       go_wp2
       all_goals go_ret
       all_goals (refine⟨?_,rfl⟩;simp[*]))
theorem FE {P:Program} (t:TypeId) (h:P.underlying t=some .string) {s:ByteArray} (k:Nat) (hk:k<s.size) (w:World):
  (Instr.index t (.string s) (.int .i64 (k:Int))).run P w=.ok (.int .u8 (EL s k)) w:=by
 rw[run_index_string w t _ _ (k:Int) h,dif_pos (by omega),YM];rfl
theorem Sg (s:ByteArray) (w:World) (hs:s.size≤140737488351232):Calls Tryz.prog 118 #[.string s] w fun e w'=>e=.returned (.int .i64 (AR s))∧w=w':=by
 by_cases h12:12<s.size
 ·have He:=zh (Ld h12)
  go_enter Tryz.func118, Tryz.ntmps118
  go_wp2;go_ret;exact⟨Af He.out.symm,rfl⟩
 ·have Hbad:=zh (fun i=>Mx (s:=s) (i:=i) (by omega))
  have Hsl:=zh (Ka (s:=s) (by omega));have Hok:=zh (Oe (s:=s) (by omega))
  go_enter Tryz.func118, Tryz.ntmps118
  go_wp2_with fail;go_loop [3,10] (fun a i=>∃k:Nat,k≤s.size∧i=.int .i64 k∧a=.int .u8 (ahead s k)∧Hid (∀j,j<k→GH s j=false)) (fun _ i=>s.size-(intOf i).toNat)
  case atStart=>exact⟨0,by omega,rfl,rfl,fun j hj=>absurd hj (by omega)⟩
  obtain⟨k,hk,rfl,rfl,Hs⟩:=hrel;by_cases hlt:k<s.size
  ·have hix:=fun w=>FE (P:=Tryz.prog) 9 Tryz.underlying9 (s:=s) k hlt w
   have Hb:=zh (show GH s k=(!OF (EL s k) && (EL s k !=47||ahead s k==47)) from rfl);have Han:=zh (SR s k);cases q1:OF (EL s k)
   ·cases q2:(EL s k !=47)
    ·cases q3:(ahead s k==47)
     ·have HB:=zh (show GH s k=false by rw[Hb.out,q1,q2,q3];rfl)
      go_wp2_with (go_at_call 146;refine(Lu _ _).mono ?_;rintro e w' ⟨rfl,rfl⟩);go_round
      case rel=>exact⟨k+1,by omega,by go_num,by rw[Han.out],By Hs.out HB.out⟩
      case measure=>simp[intOf];omega
     ·have HB:=zh (Hbad.out k hlt (by rw[Hb.out,q1,q2,q3];rfl))
      go_wp2_with (go_at_call 146;refine(Lu _ _).mono ?_;rintro e w' ⟨rfl,rfl⟩);go_ret;exact⟨Af HB.out.symm,rfl⟩
    ·have HB:=zh (Hbad.out k hlt (by rw[Hb.out,q1,q2];rfl))
     go_wp2_with (go_at_call 146;refine(Lu _ _).mono ?_;rintro e w' ⟨rfl,rfl⟩);go_ret;exact⟨Af HB.out.symm,rfl⟩
   ·have HB:=zh (show GH s k=false by rw[Hb.out,q1];rfl)
    go_wp2_with (go_at_call 146;refine(Lu _ _).mono ?_;rintro e w' ⟨rfl,rfl⟩);go_round
    case rel=>exact⟨k+1,by omega,by go_num,by rw[Han.out],By Hs.out HB.out⟩
    case measure=>simp[intOf];omega
  ·obtain rfl:k=s.size:=by omega
   cases q3:(ahead s s.size==47)
   ·have HB:=zh (Hok.out Hs.out (by simpa using q3))
    go_wp2;go_ret;exact⟨Af HB.out.symm,rfl⟩
   ·have HB:=zh (Hsl.out (by simpa using q3))
    go_wp2;go_ret;exact⟨Af HB.out.symm,rfl⟩
theorem JT (s:ByteArray) (w:World) (hs:s.size≤140737488351232):Calls Tryz.prog 111 #[.string s] w fun e w'=>e=.returned (.int .i64 (AR s))∧w=w':=by
  by_cases h12:12<s.size
  · have He:=zh (Ld h12)
    go_enter Tryz.func111, Tryz.ntmps111
    go_wp2;go_ret;exact⟨Af He.out.symm,rfl⟩
  · have Hbad := zh (fun i=>Mx (s:=s) (i:=i) (by omega))
    have Hsl:=zh (Ka (s:=s) (by omega));have Hok:=zh (Oe (s:=s) (by omega));by_cases h0:s.size=0
    · have hnil:s=⟨#[]⟩:=ByteArray.size_eq_zero_iff.1 h0
      subst hnil;have HB:=zh (Hsl.out rfl)
      go_enter Tryz.func111, Tryz.ntmps111
      go_wp2;go_ret;exact⟨Af HB.out.symm,rfl⟩
    · have hne:s.toList≠[]:=by
        rw[ByteArray.toList_eq];intro e;apply h0;have:=congrArg List.length e;simpa using this
      have hne1:s.toList.isEmpty=false:=by cases h:s.toList<;>simp_all
      have hix0:=fun w=>FE (P:=Tryz.prog) 9 Tryz.underlying9 (s:=s) 0 (by omega) w
      have hixl:=fun w=>FE (P:=Tryz.prog) 9 Tryz.underlying9 (s:=s) (s.size-1) (by omega) w
      rw[show((s.size-1:Nat):Int)=(s.size:Int)-1 by omega] at hixl;rw[show((0:Nat):Int)=0 from rfl] at hix0;cases q0:(EL s 0==47)
      · cases ql:(EL s (s.size-1)==47)
        · have Hq0:=zh (show EL s 0≠47 by simpa using q0)
          have Hql:=zh (show ahead s s.size≠47 by unfold ahead;rw[if_neg h0];simpa using ql)
          go_enter Tryz.func111, Tryz.ntmps111
          go_wp2_with fail;clear hix0 hixl q0 ql hne hne1;go_loop [3] (fun i=>∃k:Nat,k≤s.size∧i=.int .i64 k∧Hid (∀j,j<k→GH s j=false)) (fun i=>s.size-(intOf i).toNat)
          case atStart=>exact⟨0,by omega,rfl,fun j hj=>absurd hj (by omega)⟩
          obtain⟨k,hk,rfl,Hs⟩:=hrel;by_cases hlt:k<s.size
          · have hix:=fun w=>FE (P:=Tryz.prog) 9 Tryz.underlying9 (s:=s) k hlt w
            have Hsm:=zh (SU (s:=s) (i:=k) (fun _=>Hq0.out));have Hb:=zh (show Nk s k=((!within (EL s k) 97 122 && !within (EL s k) 48 57 && EL s k !=45 && EL s k !=47)||(EL s k==47 && EL s (k-1)==47)) from rfl);have hr:=UJ s k;have hwi:=Be (n:=EL s k) (by omega);have HF:=zh (fun(h:Nk s k=false)=>show GH s k=false by rw[←Hsm.out];exact h);have HT:=zh (fun(h:Nk s k=true)=>Hbad.out k hlt (by rw[←Hsm.out];exact h));cases q4:(EL s k==47)
            · have q4':(EL s k !=47)=true:=by show(!(EL s k==47))=true;rw[q4];rfl
              cases q1:within (EL s k) 97 122<;>cases q2:within (EL s k) 48 57<;>cases q3:(EL s k==45)
              all_goals
                have q3':(EL s k !=45)=!(EL s k==45):=rfl;rw[q3] at q3';simp only[Bool.not_true,Bool.not_false] at q3'
                first
                  | (have HB:=zh (HF.out (by rw[Hb.out,q1,q2,q3',q4,q4'];rfl))
                     go_wp2_with (go_at_call 34;refine(Ao _ _ _ _).mono ?_;rintro e w' ⟨rfl,rfl⟩);go_round
                     case rel=>exact⟨k+1,by omega,by go_num,By Hs.out HB.out⟩
                     case measure=>simp[intOf];omega)
                  | (have HB:=zh (HT.out (by rw[Hb.out,q1,q2,q3',q4,q4'];rfl))
                     go_wp2_with (go_at_call 34;refine(Ao _ _ _ _).mono ?_;rintro e w' ⟨rfl,rfl⟩);go_ret;exact⟨Af HB.out.symm,rfl⟩)
            · have q4':(EL s k !=47)=false:=by show(!(EL s k==47))=false;rw[q4];rfl
              have hk0:0<k:=by
                rcases Nat.eq_zero_or_pos k with e|e
                ·subst e;exact absurd (by simpa using q4) Hq0.out
                ·exact e
              have hixp:=fun w=>FE (P:=Tryz.prog) 9 Tryz.underlying9 (s:=s) (k-1) (by omega) w
              rw[show((k-1:Nat):Int)=(k:Int)-1 by omega] at hixp;cases q1:within (EL s k) 97 122<;>cases q2:within (EL s k) 48 57<;>cases q3:(EL s k==45)<;>cases q5:(EL s (k-1)==47)
              all_goals
                have q3':(EL s k !=45)=!(EL s k==45):=rfl;rw[q3] at q3';simp only[Bool.not_true,Bool.not_false] at q3'
                first
                  | (have HB:=zh (HF.out (by rw[Hb.out,q1,q2,q3',q4,q4',q5];rfl))
                     go_wp2_with (go_at_call 34;refine(Ao _ _ _ _).mono ?_;rintro e w' ⟨rfl,rfl⟩);go_round
                     case rel=>exact⟨k+1,by omega,by go_num,By Hs.out HB.out⟩
                     case measure=>simp[intOf];omega)
                  | (have HB:=zh (HT.out (by rw[Hb.out,q1,q2,q3',q4,q4',q5];rfl))
                     go_wp2_with (go_at_call 34;refine(Ao _ _ _ _).mono ?_;rintro e w' ⟨rfl,rfl⟩);go_ret;exact⟨Af HB.out.symm,rfl⟩)
          · obtain rfl:k=s.size:=by omega
            have HB:=zh (Hok.out Hs.out Hql.out);go_wp2;go_ret;exact⟨Af HB.out.symm,rfl⟩
        · have HB:=zh (Hsl.out (show ahead s s.size=47 by unfold ahead;rw[if_neg h0];simpa using ql))
          go_enter Tryz.func111, Tryz.ntmps111
          go_wp2;go_ret;exact⟨Af HB.out.symm,rfl⟩
      · have HB:=zh (Hbad.out 0 (by omega) (SV (by simpa using q0)))
        go_enter Tryz.func111, Tryz.ntmps111
        go_wp2;go_ret;exact⟨Af HB.out.symm,rfl⟩
variable [Ghost]
theorem VL (l:List Rf) (v:Value) (S:Nat→Prop) (s:ByteArray) (w:World) (h:AB S w v l):
  Calls Tryz.prog 159 #[v,.string s] w fun e w'=>e=.returned (.int .i64 (CI l s))∧w=w':=by
 obtain⟨a,n,cap,HN,rfl,h1,h2,h3,h4,h5⟩:=h.open;clear h h5;have Hh:=zh (fun k h1 hk he=>Th (l:=l) (s:=s) (k:=k) h1 (by rw[←HN.out];exact hk) he);have Hn:=zh (fun h1=>RC (l:=l) (s:=s) (by rw[←HN.out];exact h1))
 go_enter Tryz.func159, Tryz.ntmps159
 go_wp2;go_loop [5] (fun i=>∃k:Nat,k≤n∧i=.int .i64 k∧Hid (∀j,j<k→((rf l j).name.toList==s.toList)=false)) (fun i=>n-(intOf i).toNat)
 case atStart=>exact⟨0,by omega,rfl,fun j hj=>absurd hj (by omega)⟩
 obtain⟨k,hk,rfl,Hs⟩:=hrel;by_cases hlt:k<n
 ·obtain⟨b,off,rfl,hb,k0,k1⟩:=h4 (by omega)
  have x0:=k0 k w hlt (Below.refl _ _);clear h4 k0 k1;cases hq:((rf l k).name.toList==s.toList)
  ·have He:=zh hq
   go_wp2;go_round
   case rel=>exact⟨k+1,by omega,by go_num,By Hs.out He.out⟩
   case measure=>simp[intOf];omega
  ·have HK:=zh (Hh.out k Hs.out hlt hq)
   go_wp2;go_ret;exact⟨Af HK.out.symm,rfl⟩
 ·obtain rfl:k=n:=by omega
  have HK:=zh (Hn.out Hs.out);go_wp2;go_ret;exact⟨Af HK.out.symm,rfl⟩
def RG (p:Rf→Bool) (l:List Rf):Int:=match l.findIdx? p with|some i=>(i:Int)|none=>-1
theorem Xy {l:List Rf} {p:Rf→Bool} {k:Nat} (h:∀j,j<k→p (rf l j)=false) (hk:k<l.length) (he:p (rf l k)=true):RG p l=k:=by
 unfold RG;have:l.findIdx? p=some k:=by
  rw[List.findIdx?_eq_some_iff_getElem];refine⟨hk,by rw[←DB hk];exact he,fun j hj=>?_⟩;have:=h j hj;rw[DB (by omega)] at this;simp[this]
 rw[this]
theorem Vm {l:List Rf} {p:Rf→Bool} (h:∀j,j<l.length→p (rf l j)=false):RG p l=-1:=by
 unfold RG;have:l.findIdx? p=none:=by
  rw[List.findIdx?_eq_none_iff];intro x hx;obtain⟨i,hi,rfl⟩:=List.getElem_of_mem hx;have:=h i hi
  rwa [DB hi] at this
 rw[this]
theorem To (p:Rf→Bool) (l:List Rf):(RG p l=-1∧∀j,j<l.length→p (rf l j)=false)∨∃k,k<l.length∧RG p l=(k:Int)∧p (rf l k)=true:=by
 unfold RG;cases h:l.findIdx? p with
 |none=>
  rw[List.findIdx?_eq_none_iff] at h;exact .inl ⟨rfl,fun j hj=>by rw[DB hj];exact h _ (List.getElem_mem hj)⟩
 |some k=>
  rw[List.findIdx?_eq_some_iff_getElem] at h;obtain⟨hk,he,_⟩:=h;exact .inr ⟨k,hk,rfl,by rw[DB hk];exact he⟩
def Qa (g:Nat) (c:Value) (p:Rf→Bool) (w:World) (l:List Rf):Prop:=
 ∀(x:World) (i:Nat),i<l.length→Below w.heap.size w x→Calls Tryz.prog g #[.agg #[.string (rf l i).name,.int .i64 (rf l i).id],c] x fun e w'=>e=.returned (.bool (p (rf l i)))∧Below x.heap.size x w'
theorem Jf (l:List Rf) (v c:Value) (S:Nat→Prop) (g:Nat) (p:Rf→Bool) (w:World) (h:AB S w v l) (eg:∀args w,(callFunc g args).run Tryz.prog w=.ok (.enter g args) w) (hp:Qa g c p w l):
  Calls Tryz.prog 151 #[v,.func (.func g) #[] #[c]] w fun e w'=>e=.returned (.int .i64 (RG p l))∧Below w.heap.size w w':=by
 obtain⟨a,n,cap,HN,rfl,h1,h2,h3,h4,h5⟩:=h.open;clear h h5;obtain⟨R,hR,hR1,_⟩:=Av w;have hRb:=hR.below;have hRn:=hR.next
 have Hp:=zh (fun x k (hk:k<n) hx=>hp x k (by rw[←HN.out];exact hk) hx);clear hp;have Hh:=zh (fun k h1 hk he=>Xy (l:=l) (p:=p) (k:=k) h1 (by rw[←HN.out];exact hk) he);have Hn:=zh (fun h1=>Vm (l:=l) (p:=p) (by rw[←HN.out];exact h1))
 go_enter Tryz.func151, Tryz.ntmps151
 go_wp2_with fail;go_loopw [8] (fun i wr=>∃k:Nat,k≤n∧i=.int .i64 k∧Hid (∀j,j<k→p (rf l j)=false)∧In R wr) (fun i _=>n-(intOf i).toNat)
 case atStart=>exact⟨0,by omega,rfl,fun j hj=>absurd hj (by omega),hR1⟩
 obtain⟨k,hk,rfl,Hs,hRw⟩:=hrel;clear hR1;by_cases hlt:k<n
 ·obtain⟨b,off,rfl,hb,k0,k1⟩:=h4 (by omega)
  have x0:=k0 k wr hlt (hRb _ hRw);have x1:=k1 k wr hlt (hRb _ hRw);clear h4 k0 k1;cases hq:p (rf l k)
  ·have He:=zh hq
   go_wp2_with fail;refine(Hp.out _ k hlt (hRb _ hRw)).mono ?_;rintro e w' ⟨rfl,hb2⟩;rw[hq];have hR2:=hRn _ _ hRw hb2;go_wp2_with fail;go_roundw
   case rel=>exact⟨k+1,by omega,by go_num,By Hs.out He.out,hR2⟩
   case measure=>simp[intOf];omega
  ·have HK:=zh (Hh.out k Hs.out hlt hq)
   go_wp2_with fail;refine(Hp.out _ k hlt (hRb _ hRw)).mono ?_;rintro e w' ⟨rfl,hb2⟩;rw[hq];have hR2:=hRn _ _ hRw hb2;go_wp2_with fail;go_ret;exact⟨Af HK.out.symm,hRb _ hR2⟩
 ·obtain rfl:k=n:=by omega
  have HK:=zh (Hn.out Hs.out);go_wp2_with fail;go_ret;exact⟨Af HK.out.symm,hRb _ hRw⟩
variable [Ghost]
theorem Vf (r:Rf) (s:ByteArray) (a:Addr) (w:World) (hc:w.cell? a=some (.string s)):
  Calls Tryz.prog 196 #[.agg #[.string r.name,.int .i64 r.id],.pointer (some a)] w fun e w'=>e=.returned (.bool (r.name.toList==s.toList))∧Below w.heap.size w w':=by
 obtain⟨R,hR,hR1,hx⟩:=BO w #[.string r.name,.int .i64 r.id] 86;have hx0:=hx 0 _ rfl _ hR1;have hx1:=hx 1 _ rfl _ hR1;have hc2:=Ae (hR.below _ hR1) hc;have hbw:=hR.below _ hR1;clear hx hR1 hR hc;generalize hq:(r.name.toList==s.toList)=q
 go_enter Tryz.func196, Tryz.ntmps196
 go_wp2_with fail;go_ret;exact⟨rfl,hbw⟩
theorem Xp (l:List Rf) (v:Value) (S:Nat→Prop) (s:ByteArray) (w:World) (h:AB S w v l):
  Calls Tryz.prog 180 #[v,.string s] w fun e w'=>e=.returned (.int .i64 (CI l s))∧Below w.heap.size w w':=by
 obtain⟨p,rfl⟩:=h.shape;obtain⟨R,hR,hR1,hc⟩:=BO w #[.string s] 9;have hc0:=hc 0 _ rfl;have hRb:=hR.below;have hRn:=hR.next
 have Hap:=zh (show Qa 196 (.pointer (some ⟨w.heap.size,0,none⟩)) (fun r=>r.name.toList==s.toList) (w.alloc (.cells #[.string s] 9)) l from fun x i _ hx=>Vf (rf l i) s _ x (hc0 x (hRn _ _ hR1 hx)));have hmf:∀(fn:Fn) (first cap:Array Value) (w:World),(Instr.makeFunc fn first cap).run Tryz.prog w=.ok (.func fn first cap) w:=fun _ _ _ _=>rfl
 clear hc
 go_enter Tryz.func180, Tryz.ntmps180
 go_wp2_with (go_at_call 151;refine(Jf l _ _ S _ _ _ (h.below (hRb _ hR1)) (fun _ _=>rfl) Hap.out).mono ?_;rintro e w' ⟨rfl,hb2⟩);go_ret;exact⟨rfl,hRb _ (hRn _ _ hR1 hb2)⟩
theorem Jv (objs:List Obj) (v:Value) (S:Nat→Prop) (id:Int) (w:World) (h:Ai S w v objs) (hr:AD objs):
  Calls Tryz.prog 131 #[v,.int .i64 id] w fun e w'=>e=.returned (.int .i64 (AH objs id))∧Below w.heap.size w w':=by
 obtain⟨a,cap,n,rfl⟩:∃a cap n,v=.slice a n cap:=let⟨_,⟨a,cap,hv,_⟩,_⟩:=h;⟨a,cap,_,hv⟩;have Hk:=zh (fun x (hx:Below w.heap.size w x)=>NT objs _ S id x (h.below hx) hr);unfold AH;generalize AC objs id=kd at*;by_cases h0:kd=0
 ·have q0:(kd==0)=true:=by simpa using h0
  go_enter Tryz.func131, Tryz.ntmps131
  go_wp2_with (go_at_call 130;refine(Hk.out _ (Below.refl _ _)).mono ?_;rintro e w' ⟨rfl,hb2⟩);go_ret;exact⟨rfl,hb2⟩
 ·have q0:(kd==0)=false:=by simpa using h0
  by_cases h3:kd=3
  ·have q3:(kd==3)=true:=by simpa using h3
   go_enter Tryz.func131, Tryz.ntmps131
   go_wp2_with (go_at_call 130;refine(Hk.out _ (Below.refl _ _)).mono ?_;rintro e w' ⟨rfl,hb2⟩);go_ret;exact⟨rfl,hb2⟩
  ·have q3:(kd==3)=false:=by simpa using h3
   go_enter Tryz.func131, Tryz.ntmps131
   go_wp2_with (go_at_call 130;refine(Hk.out _ (Below.refl _ _)).mono ?_;rintro e w' ⟨rfl,hb2⟩);go_ret;exact⟨rfl,hb2⟩
theorem IE (objs:List Obj) (v:Value) (S:Nat→Prop) (id:Int) (w:World) (h:Ai S w v objs):
  Calls Tryz.prog 112 #[v,.int .i64 id] w fun e w'=>e=.returned (.int .i64 (AH objs id))∧w=w':=by
 obtain⟨a,cap,n,rfl⟩:∃a cap n,v=.slice a n cap:=let⟨_,⟨a,cap,hv,_⟩,_⟩:=h;⟨a,cap,_,hv⟩;have Hk:=zh (NR objs _ S id w h);unfold AH;generalize AC objs id=kd at*;by_cases h0:kd=0
 ·have q0:(kd==0)=true:=by simpa using h0
  go_enter Tryz.func112, Tryz.ntmps112
  go_wp2_with (go_at_call 110;refine Hk.out.mono ?_;rintro e w' ⟨rfl,rfl⟩);go_ret;exact⟨rfl,rfl⟩
 ·have q0:(kd==0)=false:=by simpa using h0
  by_cases h3:kd=3
  ·have q3:(kd !=3)=false:=by simpa using h3
   go_enter Tryz.func112, Tryz.ntmps112
   go_wp2_with (go_at_call 110;refine Hk.out.mono ?_;rintro e w' ⟨rfl,rfl⟩);go_ret;exact⟨rfl,rfl⟩
  ·have q3:(kd !=3)=true:=by simpa using h3
   go_enter Tryz.func112, Tryz.ntmps112
   go_wp2_with (go_at_call 110;refine Hk.out.mono ?_;rintro e w' ⟨rfl,rfl⟩);go_ret;exact⟨rfl,rfl⟩
variable [Ghost]
theorem La (x p:ByteArray) (w:World) (hx:x.size≤140737488351232) (hp:p.size≤9223372036854775807):
  Calls Tryz.prog 150 #[.string x,.string p] w fun e w'=>e=.returned (.bool (decide (p.size≤x.size) && ((x.extract 0 p.size).toList==p.toList)))∧w=w':=by
 by_cases h:p.size≤x.size
 ·have hd:decide (p.size≤x.size)=true:=by simpa using h
  have Hd:=zh hd;clear hd;generalize hq:((x.extract 0 p.size).toList==p.toList)=q
  go_enter Tryz.func150, Tryz.ntmps150
  go_wp2;go_ret;exact⟨by simp[*],rfl⟩
 ·have hd:decide (p.size≤x.size)=false:=by simpa using h
  have Hd:=zh hd;clear hd
  go_enter Tryz.func150, Tryz.ntmps150
  go_wp2;go_ret;exact⟨by simp[*],rfl⟩
theorem Pc (x p:ByteArray) (w:World) (hx:x.size≤140737488351232) (hp:p.size≤9223372036854775807):
  Calls Tryz.prog 126 #[.string x,.string p] w fun e w'=>e=.returned (.bool (decide (p.size≤x.size) && ((x.extract 0 p.size).toList==p.toList)))∧w=w':=by
 have hl:=zh (La x p w hx hp);generalize (decide (p.size≤x.size) && ((x.extract 0 p.size).toList==p.toList))=b at*
 go_enter Tryz.func126, Tryz.ntmps126
 go_wp2_with fail;refine hl.out.mono ?_;rintro e w' ⟨rfl,rfl⟩;go_wp2_with fail;go_ret;exact⟨rfl,rfl⟩
theorem TM (r x:Rf) (a:Addr) (w:World) (hc:w.cell? a=some (.string r.name)) (ha:a.spot=none) (hr:r.name.size≤140737488351232) (hx:x.name.size≤140737488351232):
  Calls Tryz.prog 133 #[.agg #[.string x.name,.int .i64 x.id],.pointer (some a)] w fun e w'=>e=.returned (.bool (BP r.name x.name))∧Below w.heap.size w w':=by
 obtain⟨b,off,sp⟩:=a;simp only at ha;subst ha;obtain⟨R,hR,hR1,hxx⟩:=BO w #[.string x.name,.int .i64 x.id] 86;have hx0:=hxx 0 _ rfl _ hR1;have hx1:=hxx 1 _ rfl _ hR1;have hc2:=Ae (hR.below _ hR1) hc;have hbw:=hR.below _ hR1;have hsz:(r.name++⟨#[47]⟩:ByteArray).size=r.name.size+1:=by rw[ByteArray.size_append];rfl
 have Hp:=zh (fun w=>Pc x.name (r.name++⟨#[47]⟩) w hx (by rw[hsz];omega));have Hq:=zh (QG r.name x.name);clear hsz;clear hxx hR1 hR hc
 go_enter Tryz.func133, Tryz.ntmps133
 go_wp2_with fail;refine(Hp.out _).mono ?_;rintro e w' ⟨rfl,rfl⟩;rw[Hq.out];go_wp2_with fail;go_ret;exact⟨rfl,hbw⟩
theorem LR (l:List Rf) (v c:Value) (S:Nat→Prop) (g:Nat) (p:Rf→Bool) (w:World) (h:AB S w v l) (eg:∀args w,(callFunc g args).run Tryz.prog w=.ok (.enter g args) w) (hp:Qa g c p w l):
  Calls Tryz.prog 132 #[v,.func (.func g) #[] #[c]] w fun e w'=>e=.returned (.bool (l.any p))∧Below w.heap.size w w':=by
 obtain⟨q,rfl⟩:=h.shape;have Hi:=zh (Jf l _ c S g p w h eg hp);rcases To p l with⟨h0,h1⟩|⟨k,hk,h0,h1⟩
 ·have Ha:=zh (show l.any p=false by
   rw[List.any_eq_false];intro x hx;obtain⟨i,hi,rfl⟩:=List.getElem_of_mem hx;have:=h1 i hi;rw[DB hi] at this;simp[this])
  clear h1 hp
  go_enter Tryz.func132, Tryz.ntmps132
  go_wp2_with fail;refine Hi.out.mono ?_;rintro e w' ⟨rfl,hb⟩;rw[h0];go_wp2_with fail;go_ret;exact⟨by rw[Ha.out];rfl,hb⟩
 ·have Ha:=zh (show l.any p=true by
   rw[List.any_eq_true];exact⟨rf l k,by rw[DB hk];exact List.getElem_mem hk,h1⟩)
  have hd:decide ((0:Int)≤(k:Int))=true:=by simp
  clear h1 hp
  go_enter Tryz.func132, Tryz.ntmps132
  go_wp2_with fail;refine Hi.out.mono ?_;rintro e w' ⟨rfl,hb⟩;rw[h0];go_wp2_with fail;go_ret;exact⟨by rw[Ha.out];first|rfl|simp,hb⟩
theorem WI {l:List Rf} {k:Nat}:(l.any fun x=>BP (rf l k).name x.name)=true→∃i,i<l.length∧BP (rf l k).name (rf l i).name=true:=by
 intro h;rw[List.any_eq_true] at h;obtain⟨x,hx,h⟩:=h;obtain⟨i,hi,rfl⟩:=List.getElem_of_mem hx;exact⟨i,hi,by rw[DB hi];exact h⟩
theorem Zf {l:List Rf} {k:Nat} (h:(l.any fun x=>BP (rf l k).name x.name)=false):∀i,i<l.length→BP (rf l k).name (rf l i).name=false:=by
 intro i hi;rw[List.any_eq_false] at h;have:=h _ (List.getElem_mem hi);rw[DB hi];simpa using this
theorem Md (l:List Rf) (objs:List Obj) (v u:Value) (S S':Nat→Prop) (w:World) (h:AB S w v l) (ho:Ai S' w u objs) (hr:AD objs):
  Calls Tryz.prog 103 #[v,u] w fun e w'=>e=.returned (.int .i64 (AE l objs))∧Below w.heap.size w w':=by
 have h':=h;obtain⟨a,n,cap,HN,rfl,h1,h2,h3,h4,h5⟩:=h.open;clear h;obtain⟨ua,uc,un,rfl⟩:∃a cap n,u=.slice a n cap:=let⟨_,⟨a,cap,hv,_⟩,_⟩:=ho;⟨a,cap,_,hv⟩;have hmf:∀(fn:Fn) (first cap:Array Value) (w:World),(Instr.makeFunc fn first cap).run Tryz.prog w=.ok (.func fn first cap) w:=fun _ _ _ _=>rfl
 obtain⟨R,hR,hR1,_⟩:=Av w;have hRb:=hR.below;have hRn:=hR.next
 by_cases h8:8<n
 ·have He:=zh (Ke (l:=l) (objs:=objs) (by rw[←HN.out];exact h8))
  go_enter Tryz.func103, Tryz.ntmps103
  go_wp2_with fail;go_ret;exact⟨Af He.out.symm,hRb _ hR1⟩
 ·have hl8:l.length≤8:=by rw[←HN.out];omega
  have Href:=zh (fun i e (h0:An (BW l objs) i=0) (hi:i<n) (he:BW l objs i=e) (hne:e≠0)=>Lm hl8 h0 (by rw[←HN.out];exact hi) he hne);have Hpair:=zh (fun i k (h0:An (BW l objs) n=0) (hi:i<n) (hk:k<l.length) (he:BP (rf l i).name (rf l k).name=true)=>Kf hl8 (by rw[←HN.out];exact h0) (by rw[←HN.out];exact hi) hk he);have Hok:=zh (fun(h0:An (BW l objs) n=0) (hp:∀i,i<n→∀k,k<l.length→BP (rf l i).name (rf l k).name=false)=>Jw (l:=l) (objs:=objs) hl8 (by rw[←HN.out];exact h0) (fun i k hi hk=>hp i (by rw[HN.out];exact hi) k hk));clear hl8
  go_enter Tryz.func103, Tryz.ntmps103
  go_wp2_with fail;go_loopw [15] (fun i wr=>∃k:Nat,k≤n∧i=.int .i64 k∧Hid (An (BW l objs) k=0)∧In R wr) (fun i _=>n-(intOf i).toNat)
  case atStart=>exact⟨0,by omega,rfl,rfl,hR1⟩
  obtain⟨k,hk,rfl,Hs,hRw⟩:=hrel;clear hR1;by_cases hlt:k<n
  ·obtain⟨b,off,rfl,hb,k0,k1⟩:=h4 (by omega)
   have x0:=k0 k wr hlt (hRb _ hRw);have x1:=k1 k wr hlt (hRb _ hRw);have hnm:=(h5 k hlt).2;have Hk0:=zh k0;clear h4 h5 k0 k1;obtain⟨Q,hQ,hQ1,hy⟩:=BO wr #[.string (rf l k).name,.int .i64 (rf l k).id] 86;have y0:=hy 0 _ rfl;have y1:=hy 1 _ rfl;clear hy;have hQb:∀x,In Q x→Below w.heap.size w x:=fun x hx=>Al (hRb _ hRw) (hQ.below x hx)
   have hQn:=hQ.next
   have hQd:=hQ.drewN;have Hre:=zh (show BW l objs k=if AR (rf l k).name≠0 then AR (rf l k).name else if 0<k∧Au (rf l (k-1)).name (rf l k).name=false then 4 else AH objs (rf l k).id from rfl);generalize hne:AR (rf l k).name=ne at*;have Hna:=zh (fun x=>by have:=Sg (rf l k).name x hnm;rw[hne] at this;exact this);clear hne hnm;go_wp2_with fail;refine(Hna.out _).mono ?_;rintro e w2 ⟨rfl,rfl⟩;go_upto_region 7 with fail;go_cut [39] (fun s39 wx=>s39=.bool (decide (ne=0∧0<k∧Au (rf l (k-1)).name (rf l k).name=false))∧∃x,x=wx∧In Q x)
   case first=>
    cases hz:(ne==0)
    ·have Hz:=zh (show ne≠0 by simpa using hz)
     go_quiet (fail);go_wp2_with fail;go_meet;exact⟨by simp[Hz.out],_,rfl,hQd _ _ hQ1⟩
    ·have Hz:=zh (show ne=0 by simpa using hz)
     by_cases hk0:0<k
     ·have hkm:∀x,In Q x→x.cell? ⟨b,off+(k-1)*2,none⟩=some (.string (rf l (k-1)).name):=fun x hx=>Hk0.out (k-1) x (by omega) (hQb x hx)
      have hi3:(0:Int)≤(k:Int)-1:=by omega
      have hi4:(1:Int)≤(k:Int):=by omega
      have hi5:(k:Int)-1<(n:Int):=by omega
      have hi6:(0:Int)<(k:Int):=by omega
      have hwr2:=Be (n:=(k:Int)-1) (by omega);have htn:((k:Int)-1).toNat=k-1:=by omega
      have Hst:=zh (show Au (rf l (k-1)).name (rf l k).name=Op.bytesLess (rf l (k-1)).name.toList (rf l k).name.toList from rfl);cases hq:Op.bytesLess (rf l (k-1)).name.toList (rf l k).name.toList
      all_goals
       go_quiet (fail);go_wp2_with fail;go_meet;exact⟨by rw[Hst.out,hq];simp[Hz.out,hk0],_,rfl,hQd _ _ hQ1⟩
     ·have hd:decide ((0:Int)<(k:Int))=false:=by simp;omega
      go_quiet (fail);go_wp2_with fail;go_meet;exact⟨by simp[hk0],_,rfl,hQd _ _ hQ1⟩
   obtain⟨rfl,w3,rfl,hQ3⟩:=hcut;clear hQ1 x0 x1;by_cases hbad:ne=0∧0<k∧Au (rf l (k-1)).name (rf l k).name=false
   ·have hd:decide (ne=0∧0<k∧Au (rf l (k-1)).name (rf l k).name=false)=true:=by simpa using hbad
    rw[hd];have HE:=zh (Href.out k 4 Hs.out hlt (by rw[Hre.out,if_neg (by simp[hbad.1]),if_pos ⟨hbad.2.1,hbad.2.2⟩]) (by decide));clear hbad hd;go_wp2;go_ret;exact⟨Af HE.out.symm,hQb _ hQ3⟩
   ·have hd:decide (ne=0∧0<k∧Au (rf l (k-1)).name (rf l k).name=false)=false:=by simpa using hbad
    rw[hd];clear hd;have Hbad:=zh hbad;clear hbad;cases hz:(ne==0)
    ·have hz2:(ne !=0)=true:=by show(!(ne==0))=true;rw[hz];rfl
     have HE:=zh (Href.out k ne Hs.out hlt (by rw[Hre.out,if_pos (by simpa using hz)]) (by simpa using hz));go_wp2;go_ret;exact⟨Af HE.out.symm,hQb _ hQ3⟩
    ·have HE:=zh (show BW l objs k=AH objs (rf l k).id by
      have hne0:ne=0:=by simpa using hz
      rw[Hre.out,if_neg (by simp[hne0]),if_neg (fun h=>Hbad.out ⟨hne0,h.1,h.2⟩)])
     have y13:=y1 _ hQ3;go_wp2_with fail;refine(Jv objs _ S' _ _ (ho.below (hQb _ hQ3)) hr).mono ?_;rintro e w4 ⟨rfl,hb4⟩;have hQ4:=hQn _ _ hQ3 hb4;clear hb4 y13;by_cases hce:AH objs (rf l k).id=0
     ·have hce':(AH objs (rf l k).id !=0)=false:=by simpa using hce
      have HN2:=zh (Ay Hs.out (HE.out.trans hce));clear hce;go_wp2_with fail;go_roundw
      case rel=>exact⟨k+1,by omega,by go_num,HN2.out,hRn _ _ hRw (hQ.below _ hQ4)⟩
      case measure=>simp[intOf];omega
     ·have hce':(AH objs (rf l k).id !=0)=true:=by simpa using hce
      have HN2:=zh (Href.out k _ Hs.out hlt HE.out hce);clear hce;go_wp2_with fail;go_ret;exact⟨Af HN2.out.symm,hQb _ hQ4⟩
  ·obtain rfl:k=n:=by omega
   go_wp2_with fail;go_loopw [52] (fun i wr=>∃m:Nat,m≤k∧i=.int .i64 m∧Hid (∀i,i<m→∀j,j<l.length→BP (rf l i).name (rf l j).name=false)∧In R wr) (fun i _=>k-(intOf i).toNat)
   case atStart=>exact⟨0,by omega,rfl,fun i hi=>absurd hi (by omega),hRw⟩
   obtain⟨m,hm,rfl,Hm,hRv⟩:=hrel;clear hRw;by_cases hlt2:m<k
   ·obtain⟨b,off,rfl,hb,k0,k1⟩:=h4 (by omega)
    have x0:=k0 m wr hlt2 (hRb _ hRv);have x1:=k1 m wr hlt2 (hRb _ hRv);have hnm:=(h5 m hlt2).2;have H5:=zh (fun i (hi:i<l.length)=>(h5 i (by rw[HN.out];exact hi)).2);clear h4 h5 k0 k1;obtain⟨Q,hQ,hQ1,hy⟩:=BO wr #[.string (rf l m).name,.int .i64 (rf l m).id] 86;have Hy:=zh (hy 0 _ rfl);clear hy;have hQb:∀x,In Q x→Below w.heap.size w x:=fun x hx=>Al (hRb _ hRv) (hQ.below x hx)
    have hQn:=hQ.next
    have Hap:=zh (show Qa 133 (.pointer (some ⟨wr.heap.size,0,none⟩)) (fun x=>BP (rf l m).name x.name) (wr.alloc (.cells #[.string (rf l m).name,.int .i64 (rf l m).id] 86)) l from
     fun x i hi hx=>TM (rf l m) (rf l i) ⟨wr.heap.size,0,none⟩ x (Hy.out x (hQn _ _ hQ1 hx)) rfl hnm (H5.out i hi))
    clear hnm;go_wp2_with fail;refine(LR l _ _ S _ _ _ (h'.below (hQb _ hQ1)) (fun _ _=>rfl) Hap.out).mono ?_;rintro e w4 ⟨rfl,hb4⟩;have hQ4:=hQn _ _ hQ1 hb4;clear hb4 x0 x1;cases hany:(l.any fun x=>BP (rf l m).name x.name)
    ·have HM:=zh (By Hm.out (Zf hany))
     go_wp2_with fail;go_roundw
     case rel=>exact⟨m+1,by omega,by go_num,HM.out,hRn _ _ hRv (hQ.below _ hQ4)⟩
     case measure=>simp[intOf];omega
    ·have HM:=zh (let⟨i,hi,h⟩:=WI hany;Hpair.out m i Hs.out hlt2 hi h)
     go_wp2_with fail;go_ret;exact⟨Af HM.out.symm,hQb _ hQ4⟩
   ·obtain rfl:m=k:=by omega
    have HE:=zh (Hok.out Hs.out Hm.out);go_wp2_with fail;go_ret;exact⟨Af HE.out.symm,hRb _ hRv⟩
variable [Ghost]
theorem Xz (x y:ByteArray) (w:World) (hx:x.size≤140737488351232) (hy:y.size≤140737488351232):
  Calls Tryz.prog 113 #[.string x,.string y] w fun e w'=>e=.returned (.bool (BP x y))∧w=w':=by
 have Hd:=zh (show BP x y=(decide (x.size<y.size) && ((y.extract 0 x.size).toList==x.toList) && (EL y x.size==47)) from rfl);by_cases h:x.size<y.size
 ·have hix:=fun w=>FE (P:=Tryz.prog) 9 Tryz.underlying9 (s:=y) x.size h w
  have hd:decide (x.size<y.size)=true:=by simpa using h
  have HD:=zh hd;clear hd;cases h1:((y.extract 0 x.size).toList==x.toList)<;>cases h2:(EL y x.size==47)
  all_goals
   go_enter Tryz.func113, Tryz.ntmps113
   go_wp2;go_ret;exact⟨by rw[Hd.out,HD.out,h1,h2];rfl,rfl⟩
 ·have hd:decide (x.size<y.size)=false:=by simpa using h
  have HD:=zh hd;clear hd
  go_enter Tryz.func113, Tryz.ntmps113
  go_wp2;go_ret;exact⟨by rw[Hd.out,HD.out];rfl,rfl⟩
theorem IY (l:List Rf) (objs:List Obj) (v u:Value) (S S':Nat→Prop) (w:World) (h:AB S w v l) (ho:Ai S' w u objs):
  Calls Tryz.prog 79 #[v,u] w fun e w'=>e=.returned (.int .i64 (AE l objs))∧Below w.heap.size w w':=by
 have h':=h;obtain⟨a,n,cap,HN,rfl,h1,h2,h3,h4,h5⟩:=h.open;clear h;obtain⟨ua,uc,un,rfl⟩:∃a cap n,u=.slice a n cap:=let⟨_,⟨a,cap,hv,_⟩,_⟩:=ho;⟨a,cap,_,hv⟩;obtain⟨R,hR,hR1,_⟩:=Av w;have hRb:=hR.below;have hRd:=hR.drewN;by_cases h8:8<n
 ·have He:=zh (Ke (l:=l) (objs:=objs) (by rw[←HN.out];exact h8))
  go_enter Tryz.func79, Tryz.ntmps79
  go_wp2_with fail;go_ret;exact⟨Af He.out.symm,hRb _ hR1⟩
 ·have hl8:l.length≤8:=by rw[←HN.out];omega
  have Href:=zh (fun i e (h0:An (BW l objs) i=0) (hi:i<n) (he:BW l objs i=e) (hne:e≠0)=>Lm hl8 h0 (by rw[←HN.out];exact hi) he hne);have Hpair:=zh (fun i k (h0:An (BW l objs) n=0) (hi:i<n) (hk:k<n) (he:BP (rf l i).name (rf l k).name=true)=>Kf hl8 (by rw[←HN.out];exact h0) (by rw[←HN.out];exact hi) (by rw[←HN.out];exact hk) he);have Hok:=zh (fun(h0:An (BW l objs) n=0) (hp:∀i,i<n→∀k,k<n→BP (rf l i).name (rf l k).name=false)=>Jw (l:=l) (objs:=objs) hl8 (by rw[←HN.out];exact h0) (fun i k hi hk=>hp i (by rw[HN.out];exact hi) k (by rw[HN.out];exact hk)));clear hl8
  go_enter Tryz.func79, Tryz.ntmps79
  go_wp2_with fail;go_loopw [5] (fun i wr=>∃k:Nat,k≤n∧i=.int .i64 k∧Hid (An (BW l objs) k=0)∧In R wr) (fun i _=>n-(intOf i).toNat)
  case atStart=>exact⟨0,by omega,rfl,rfl,hR1⟩
  obtain⟨k,hk,rfl,Hs,hRw⟩:=hrel;clear hR1;by_cases hlt:k<n
  ·obtain⟨b,off,rfl,hb,k0,k1⟩:=h4 (by omega)
   have x0:=fun x hx=>k0 k x hlt (hRb x hx)
   have x1:=fun x hx=>k1 k x hlt (hRb x hx)
   have hnm:=(h5 k hlt).2;have Hk0:=zh k0;clear h4 h5 k0 k1;have Hre:=zh (show BW l objs k=if AR (rf l k).name≠0 then AR (rf l k).name else if 0<k∧Au (rf l (k-1)).name (rf l k).name=false then 4 else AH objs (rf l k).id from rfl);generalize hne:AR (rf l k).name=ne at*;have Hna:=zh (fun x=>by have:=JT (rf l k).name x hnm;rw[hne] at this;exact this);clear hne hnm;have hi1:=zk k;have hi2:(k:Int)<(n:Int):=by omega
   go_wp2_with fail;refine(Hna.out _).mono ?_;rintro e w2 ⟨rfl,rfl⟩;go_upto_region 7 with fail;go_cut [43] (fun s43 wx=>s43=.bool (decide (ne=0∧0<k∧Au (rf l (k-1)).name (rf l k).name=false))∧∃x,x=wx∧In R x)
   case first=>
    cases hz:(ne==0)
    ·have Hz:=zh (show ne≠0 by simpa using hz)
     go_quiet (fail);go_wp2_with fail;go_meet;exact⟨by simp[Hz.out],_,rfl,hRd _ _ hRw⟩
    ·have Hz:=zh (show ne=0 by simpa using hz)
     by_cases hk0:0<k
     ·have hkm:∀x,In R x→x.cell? ⟨b,off+(k-1)*2,none⟩=some (.string (rf l (k-1)).name):=fun x hx=>Hk0.out (k-1) x (by omega) (hRb x hx)
      have hi3:(0:Int)≤(k:Int)-1:=by omega
      have hi4:(1:Int)≤(k:Int):=by omega
      have hi5:(k:Int)-1<(n:Int):=by omega
      have hi6:(0:Int)<(k:Int):=by omega
      have hwr2:=Be (n:=(k:Int)-1) (by omega);have htn:((k:Int)-1).toNat=k-1:=by omega
      have Hst:=zh (ZG (rf l k).name (rf l (k-1)).name);have hle:∀(t:TypeId),binOp .leq t (.string (rf l k).name) (.string (rf l (k-1)).name)=pure (.bool !Au (rf l (k-1)).name (rf l k).name):=fun t=>by rw[binOp_string_leq,Hst.out]
      cases hq:Au (rf l (k-1)).name (rf l k).name
      all_goals
       rw[hq] at hle;go_quiet (fail);go_wp2_with fail;go_meet;exact⟨by rw[hq];simp[Hz.out,hk0],_,rfl,hRd _ _ hRw⟩
     ·have hd:decide ((0:Int)<(k:Int))=false:=by simp;omega
      go_quiet (fail);go_wp2_with fail;go_meet;exact⟨by simp[hk0],_,rfl,hRd _ _ hRw⟩
   obtain⟨rfl,w3,rfl,hQ3⟩:=hcut;have x13:=x1 _ hQ3;clear hRw x0 x1;by_cases hbad:ne=0∧0<k∧Au (rf l (k-1)).name (rf l k).name=false
   ·have hd:decide (ne=0∧0<k∧Au (rf l (k-1)).name (rf l k).name=false)=true:=by simpa using hbad
    rw[hd];have HE:=zh (Href.out k 4 Hs.out hlt (by rw[Hre.out,if_neg (by simp[hbad.1]),if_pos ⟨hbad.2.1,hbad.2.2⟩]) (by decide));clear hbad hd;go_wp2;go_ret;exact⟨Af HE.out.symm,hRb _ hQ3⟩
   ·have hd:decide (ne=0∧0<k∧Au (rf l (k-1)).name (rf l k).name=false)=false:=by simpa using hbad
    rw[hd];clear hd;have Hbad:=zh hbad;clear hbad;cases hz:(ne==0)
    ·have hz2:(ne !=0)=true:=by show(!(ne==0))=true;rw[hz];rfl
     have HE:=zh (Href.out k ne Hs.out hlt (by rw[Hre.out,if_pos (by simpa using hz)]) (by simpa using hz));go_wp2;go_ret;exact⟨Af HE.out.symm,hRb _ hQ3⟩
    ·have HE:=zh (show BW l objs k=AH objs (rf l k).id by
      have hne0:ne=0:=by simpa using hz
      rw[Hre.out,if_neg (by simp[hne0]),if_neg (fun h=>Hbad.out ⟨hne0,h.1,h.2⟩)])
     go_wp2_with fail;refine(IE objs _ S' _ _ (ho.below (hRb _ hQ3))).mono ?_;rintro e w4 ⟨rfl,rfl⟩;by_cases hce:AH objs (rf l k).id=0
     ·have hce':(AH objs (rf l k).id !=0)=false:=by simpa using hce
      have HN2:=zh (Ay Hs.out (HE.out.trans hce));clear hce;go_wp2_with fail;go_roundw
      case rel=>exact⟨k+1,by omega,by go_num,HN2.out,hQ3⟩
      case measure=>simp[intOf];omega
     ·have hce':(AH objs (rf l k).id !=0)=true:=by simpa using hce
      have HN2:=zh (Href.out k _ Hs.out hlt HE.out hce);clear hce;go_wp2_with fail;go_ret;exact⟨Af HN2.out.symm,hRb _ hQ3⟩
  ·obtain rfl:k=n:=by omega
   go_wp2_with fail;go_loopw [7] (fun i wr=>∃m:Nat,m≤k∧i=.int .i64 m∧Hid (∀i,i<m→∀j,j<k→BP (rf l i).name (rf l j).name=false)∧In R wr) (fun i _=>k-(intOf i).toNat)
   case atStart=>exact⟨0,by omega,rfl,fun i hi=>absurd hi (by omega),hRw⟩
   obtain⟨m,hm,rfl,Hm,hRv⟩:=hrel;clear hRw;obtain⟨wo,rfl⟩:∃wo:World,wo=wr:=⟨_,rfl⟩;by_cases hlt2:m<k
   ·go_wp2_with fail
    go_loopw [8] (fun i wr=>∃j:Nat,j≤k∧i=.int .i64 j∧Hid (∀i,i<j→BP (rf l m).name (rf l i).name=false)∧In R wr) (fun i _=>k-(intOf i).toNat)
    case atStart=>exact⟨0,by omega,rfl,fun i hi=>absurd hi (by omega),hRv⟩
    obtain⟨j,hj,rfl,Hj,hRu⟩:=hrel;clear hRv;by_cases hlt3:j<k
    ·obtain⟨b,off,rfl,hb,k0,k1⟩:=h4 (by omega)
     have x0:=fun x hx=>k0 m x hlt2 (hRb x hx)
     have y0:=fun x hx=>k0 j x hlt3 (hRb x hx)
     have Hin:=zh (fun x=>Xz (rf l m).name (rf l j).name x (h5 m hlt2).2 (h5 j hlt3).2);clear h4 h5 k0 k1;have hi1:=zk m;have hi2:(m:Int)<(k:Int):=by omega
     have hi3:=zk j;have hi4:(j:Int)<(k:Int):=by omega
     cases hq:BP (rf l m).name (rf l j).name
     ·have He:=zh hq
      rw[hq] at Hin;go_wp2_with fail;go_quiet ((go_at_call 113;exact BV (Hin.out _)));have hRu2:=hRd _ nq hRu;go_wp2_with fail;go_roundw
      case rel=>exact⟨j+1,by omega,by go_num,By Hj.out He.out,hRu2⟩
      case measure=>simp[intOf];omega
     ·have He:=zh (Hpair.out m j Hs.out hlt2 hlt3 hq)
      rw[hq] at Hin;go_wp2_with fail;go_quiet ((go_at_call 113;exact BV (Hin.out _)));have hRu2:=hRd _ nq hRu;go_wp2_with fail;go_ret;exact⟨Af He.out.symm,hRb _ hRu2⟩
    ·obtain rfl:j=k:=by omega
     have HM:=zh (By Hm.out Hj.out);go_wp2_with fail;go_roundw
     case rel=>exact⟨m+1,by omega,by go_num,HM.out,hRu⟩
     case measure=>simp[intOf];omega
   ·obtain rfl:m=k:=by omega
    have HE:=zh (Hok.out Hs.out Hm.out);go_wp2_with fail;go_ret;exact⟨Af HE.out.symm,hRb _ hRv⟩
theorem Pk (l:List Rf) (objs:List Obj) (v u:Value) (S S':Nat→Prop) (w:World) (h:AB S w v l) (ho:Ai S' w u objs):
  Calls Tryz.prog 72 #[v,u] w fun e w'=>e=.returned (.int .i64 (Ap l objs))∧Below w.heap.size w w':=by
 obtain⟨p,rfl⟩:=h.shape;have ho':=ho;obtain⟨ua,uc,un,rfl⟩:∃a cap n,u=.slice a n cap:=let⟨_,⟨a,cap,hv,_⟩,_⟩:=ho;⟨a,cap,_,hv⟩;by_cases hz:Aj objs=0
 ·have Hr:=zh (AS hz)
  have Hd:=zh (show Ap l objs=AE l objs by unfold Ap;rw[if_neg (by simp[hz])]);have hz':(Aj objs !=0)=false:=by simpa using hz
  clear hz
  go_enter Tryz.func72, Tryz.ntmps72
  go_wp2_with fail;refine(EF objs _ S' _ ho').mono ?_;rintro e w2 ⟨rfl,hb2⟩;go_wp2_with fail;refine(Md l objs _ _ S S' _ (h.below hb2) (ho.below hb2) Hr.out).mono ?_;rintro e w3 ⟨rfl,hb3⟩;go_wp2_with fail;go_ret;exact⟨Af Hd.out.symm,Al hb2 hb3⟩
 ·have Hd:=zh (show Ap l objs=Aj objs by unfold Ap;rw[if_pos hz])
  have hz':(Aj objs !=0)=true:=by simpa using hz
  clear hz
  go_enter Tryz.func72, Tryz.ntmps72
  go_wp2_with fail;refine(EF objs _ S' _ ho').mono ?_;rintro e w2 ⟨rfl,hb2⟩;go_wp2_with fail;go_ret;exact⟨Af Hd.out.symm,hb2⟩
theorem JV (l:List Rf) (objs:List Obj) (v u:Value) (S S':Nat→Prop) (w:World) (h:AB S w v l) (ho:Ai S' w u objs):
  Calls Tryz.prog 53 #[v,u] w fun e w'=>e=.returned (.int .i64 (Ap l objs))∧Below w.heap.size w w':=by
 obtain⟨p,rfl⟩:=h.shape;have ho':=ho;obtain⟨ua,uc,un,rfl⟩:∃a cap n,u=.slice a n cap:=let⟨_,⟨a,cap,hv,_⟩,_⟩:=ho;⟨a,cap,_,hv⟩;by_cases hz:Aj objs=0
 ·have Hd:=zh (show Ap l objs=AE l objs by unfold Ap;rw[if_neg (by simp[hz])])
  have hz':(Aj objs==0)=true:=by simpa using hz
  clear hz
  go_enter Tryz.func53, Tryz.ntmps53
  go_wp2_with fail;refine(Eu objs _ S' _ ho').mono ?_;rintro e w2 ⟨rfl,hb2⟩;go_wp2_with fail;refine(IY l objs _ _ S S' _ (h.below hb2) (ho.below hb2)).mono ?_;rintro e w3 ⟨rfl,hb3⟩;go_wp2_with fail;go_ret;exact⟨Af Hd.out.symm,Al hb2 hb3⟩
 ·have Hd:=zh (show Ap l objs=Aj objs by unfold Ap;rw[if_pos hz])
  have hz':(Aj objs==0)=false:=by simpa using hz
  clear hz
  go_enter Tryz.func53, Tryz.ntmps53
  go_wp2_with fail;refine(Eu objs _ S' _ ho').mono ?_;rintro e w2 ⟨rfl,hb2⟩;go_wp2_with fail;go_ret;exact⟨Af Hd.out.symm,hb2⟩
variable [Ghost]
def Fm:List Rf:=[⟨⟨#[109,97,105,110]⟩,3⟩,⟨⟨#[120,47,121]⟩,5⟩]
def YD (w w':World) (e:Ending) (l:List Rf):Prop:=∃v,e=.returned v∧AB (fun b=>w.heap.size≤b) w' v l∧Below w.heap.size w w'
theorem Yc (w:World) (l:List Rf) (t:TypeId) (N:Nat) (hN:N=w.heap.size) (hl:l.length*24≤140737488351232) (h:∀r∈l,Dy r.id∧r.name.size≤140737488351232):
  AB (fun b=>b=N) (w.alloc (.cells (AN (fun i=>[.string (rf l i).name,.int .i64 (rf l i).id]) l.length).toArray t)) (.slice (some ⟨N,0,none⟩) l.length l.length) l:=
 ⟨TV w _ 2 24 _ t N hN (fun _ _=>rfl) hl (by omega),h⟩
theorem PP (w:World):Calls Tryz.prog 26 #[] w fun e w'=>YD w w' e Fm:=by
 go_enter Tryz.func26, Tryz.ntmps26
 go_wp2_with fail;go_ret;have h:=Yc w Fm 86 w.heap.size rfl (by decide) (by
  intro r hr;simp only[Fm,List.mem_cons,List.not_mem_nil,or_false] at hr;rcases hr with rfl|rfl<;>exact⟨AI _ (by decide),by decide⟩)
 exact⟨_,rfl,h.weaken (fun b hb=>by omega),(Below.refl _ _).alloc (Nat.le_refl _) _⟩
variable [Ghost]
variable [Ghost]
theorem Tryz.infoInt:(Tryz.prog.info? 3).map (fun i=>(i.zero,i.size,i.bytes))=some (some (.int .i64 0),1,8):=by kernel_rfl
variable [Ghost]
variable [Ghost]
theorem Sl.upd {S T:Nat→Prop} {w w':World} {v:Value} {sz bts n:Nat} {cs:Nat→List Value} (h:Sl S w v sz bts n cs) (hu:AK T w w') (hT:∀b,S b→¬T b):Sl S w' v sz bts n cs:=by
 obtain⟨a,cap,hv,h1,h2,h3,h4⟩:=h;refine⟨a,cap,hv,h1,h2,h3,fun hn=>?_⟩;obtain⟨b,off,ha,hS,hc⟩:=h4 hn;exact⟨b,off,ha,⟨hS.1,hS.2.same fun hl=>hu.block b hl (hT b hS.1)⟩,fun i hi j u hu'=>hu.cell (hc i hi j u hu') (hT b hS.1)⟩
theorem Bb.upd {S T:Nat→Prop} {w w':World} {v:Value} {xs:List Int} (h:Bb S w v xs) (hu:AK T w w') (hT:∀b,S b→¬T b):Bb S w' v xs:=⟨h.1.upd hu hT,h.2⟩
theorem Bu.upd {S T:Nat→Prop} {w w':World} {o:Obj} {lv:Value} (h:Bu S w o lv) (hu:AK T w w') (hT:∀b,S b→¬T b):Bu S w' o lv:=⟨h.1.upd hu hT,h.2⟩
theorem Ai.upd {S T:Nat→Prop} {w w':World} {v:Value} {l:List Obj} (h:Ai S w v l) (hu:AK T w w') (hT:∀b,S b→¬T b):Ai S w' v l:=
 let⟨lvs,h1,h2⟩:=h;⟨lvs,h1.upd hu hT,fun i hi=>(h2 i hi).upd hu hT⟩
theorem KU (w:World) (o:Go.Obj) (N:Nat) (h:N=w.heap.size):(w.alloc o).heap[N]?=some o:=by subst h;exact heap_alloc_new w o
def Yf (b:Nat) (v0 v1 v2 v3:Value) (w:World):World:=(((w.setCell ⟨b,0,none⟩ v0).setCell ⟨b,1,none⟩ v1).setCell ⟨b,2,none⟩ v2).setCell ⟨b,3,none⟩ v3
theorem Zq {b:Nat} {v0 v1 v2 v3 u0 u1 u2 u3:Value} {t:TypeId} {w:World} (h0:w.heap[b]?=some (.cells #[u0,u1,u2,u3] t (0,0))):
  (Yf b v0 v1 v2 v3 w).heap[b]?=some (.cells #[v0,v1,v2,v3] t (0,0)):=
 Ah (j:=3) (Ah (j:=2) (Ah (j:=1) (Ah (j:=0) h0 _) _) _) _
theorem Yg (b:Nat) (v0 v1 v2 v3:Value) (w:World):AK (fun x=>x=b) w (Yf b v0 v1 v2 v3 w):=
 AK.setCell (T:=fun x=>x=b) (AK.setCell (T:=fun x=>x=b) (AK.setCell (T:=fun x=>x=b) (AK.setCell (T:=fun x=>x=b) (AK.refl (fun x=>x=b) w) (fun _=>rfl) v0) (fun _=>rfl) v1) (fun _=>rfl) v2) (fun _=>rfl) v3
variable [Ghost]
instance (s:ByteArray):Decidable (ZF s):=by unfold ZF;infer_instance
variable [Ghost]
def o5:Obj:=⟨5,3,[4,3],UG⟩
def s5:ByteArray:=⟨#[5,3,2,4,3,1,116]⟩
def s3:ByteArray:=⟨#[5,3,2]⟩
variable [Ghost]
theorem Cm {P:Program} {o:Oper} {a:Act} {w w':World} {K:Act→World→Prop} {Q:Exit→Act→World→Prop} (s x:Operand) (t:TypeId)
  (ho:o.op=.call {callee:=.builtin .append,args:=#[s,x],argTypes:=#[t,t]}) (v u r:Value) (hs:a.eval s=v) (hx:a.eval x=u)
  (hr:(Builtin.append_ #[t,t] o.type #[v,u]).run P w=.ok r w') (h:K (a.put o.dst r) w'):o.wp P a w K Q:=by
 unfold Oper.wp execOp;simp only[ho,resolve,invoke,builtin,Sem.run_bind,Sem.run_pure,Result.andThen_ok,List.map_toArray,List.map_cons,List.map_nil,hs,hx,hr];exact h
theorem VA (x:World) (t:TypeId) (B:Nat) (hB:B≤x.heap.size):(x.alloc (.cells #[] t)).ownsRow B t 1 (.slice (some ⟨x.heap.size,0,none⟩) 0 0) 0 (([]:List Int).map (Value.int .i64)):=
 ⟨rfl,.inr ⟨x.heap.size,0,#[],rfl,hB,heap_alloc_new x _,Nat.le_refl _,by unfold maxLen;omega,rfl,rfl⟩⟩
structure Lk (R:World→Prop) (g0:Nat) (mc:Array Value) (t0:TypeId) (B:Nat) (x:World):Prop where
 cls:In R x
 more:x.heap[g0]?=some (.cells mc t0 (0,0))
 size:B≤x.heap.size
section
variable {R:World→Prop} {g0 B:Nat} {mc:Array Value} {t0:TypeId} {x y:World}
theorem Lk.alloc (h:Lk R g0 mc t0 B x) (hRa:∀x o,In R x→In R (x.alloc o)) (o:Go.Obj):Lk R g0 mc t0 B (x.alloc o):=
 ⟨hRa _ _ h.cls,(Below.heap_alloc _ _ _ (lt_of_block h.more)).trans h.more,by have:=h.size;simp;omega⟩
theorem Lk.grown {N:Nat} (h:Lk R g0 mc t0 B x) (hRg:∀(x y:World) (row:Option Nat),In R x→x.grownBy y row→(∀k,row=some k→N≤k)→In R y) {g:Nat} (hg:x.grownBy y (some g)) (hN:N≤g) (hB:g0<B) (hb:B≤g):Lk R g0 mc t0 B y:=
 ⟨hRg _ _ _ h.cls hg (fun k hk=>by cases hk;exact hN),(hg.block g0 (lt_of_block h.more) (fun e=>by cases e;omega)).trans h.more,Nat.le_trans h.size hg.size⟩
end
theorem Yz {o:Obj} (h:Aw o=0) (hn:o.links.length=0):(o.kind==3)=false:=by
 obtain⟨h1,h2,h3,h4,h5⟩:=Fb h;have hne:o.kind≠3:=fun e=>by
  unfold Cv at h5;rw[hn] at h5;simp[An,Ij,e,hn] at h5
 simpa using hne
end Go.Proofs.YtgbnlmplkealdaaGreatDoor
