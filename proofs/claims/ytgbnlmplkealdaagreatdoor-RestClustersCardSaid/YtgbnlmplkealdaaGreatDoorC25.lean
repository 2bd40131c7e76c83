
/- VoteA: VoteA, VoteB, VoteC. -/
import Derived.Test.YtgbnlmplkealdaaGreatDoorC24
import Derived.StillTailTactics
import Derived.Lib.AppendIntMem
set_option linter.all false
set_option maxHeartbeats 4000000
set_option maxRecDepth 100000
namespace Go.Proofs.YtgbnlmplkealdaaGreatDoor
open Go.RowKit
variable [Ghost]
def Fj (J:Nat) (w:World) (s0 s1 s2:ByteArray) (n0 n1 n2:Int):Prop:=
 w.heap[J]?=some (.cells #[.string s0,.string s1,.string s2,.int .i64 n0,.int .i64 n1,.int .i64 n2] 155 (0,0))
theorem Fj.below {J:Nat} {w w':World} {s0 s1 s2:ByteArray} {n0 n1 n2:Int} (h:Fj J w s0 s1 s2 n0 n1 n2) (hb:Below w.heap.size w w'):Fj J w' s0 s1 s2 n0 n1 n2:=
 (hb.block _ (lt_of_block h)).trans h
def Zz (J:Nat) (w:World) (b:List (ByteArray×Int)):Prop:=
 ∃s0 s1 s2 n0 n1 n2,b=[(s0,n0),(s1,n1),(s2,n2)]∧Fj J w s0 s1 s2 n0 n1 n2∧(0≤n0∧n0≤1000)∧(0≤n1∧n1≤1000)∧(0≤n2∧n2≤1000)
theorem WV {J B:Nat} {w:World} {l:List (ByteArray×Int)} (h:Zz J w l) (hB:B≤J) (s:ByteArray):
  Calls Tryz.prog 125 #[.pointer (some ⟨J,0,none⟩),.string s] w fun e w'=>e=.returned (.tuple #[])∧Below B w w'∧
   ∃s0 s1 s2 n0 n1 n2,DW l s=[(s0,n0),(s1,n1),(s2,n2)]∧Fj J w' s0 s1 s2 n0 n1 n2:=by
 obtain⟨s0,s1,s2,n0,n1,n2,rfl,h,b0,b1,b2⟩:=h;obtain⟨C,hC,hC1,_⟩:=Av w;have hCb:=hC.below;have hCg:=BI hC;have hCd:=hC.drew;have HH:=zh (fun x (hx:In C x)=>h.below (hCb _ hx));have HB:=zh (fun x (hx:In C x)=>(hCb _ hx).mono (show B≤_ from Nat.le_of_lt (Nat.lt_of_le_of_lt hB (lt_of_block h))));have y0:=fun x (hx:In C x)=>show x.cell? ⟨J,0,none⟩=some (.string s0) from Aa (h.below (hCb _ hx)) rfl
 have y1:=fun x (hx:In C x)=>show x.cell? ⟨J,1,none⟩=some (.string s1) from Aa (h.below (hCb _ hx)) rfl
 have y2:=fun x (hx:In C x)=>show x.cell? ⟨J,2,none⟩=some (.string s2) from Aa (h.below (hCb _ hx)) rfl
 have y3:=fun x (hx:In C x)=>show x.cell? ⟨J,3,none⟩=some (.int .i64 n0) from Aa (h.below (hCb _ hx)) rfl
 have y4:=fun x (hx:In C x)=>show x.cell? ⟨J,4,none⟩=some (.int .i64 n1) from Aa (h.below (hCb _ hx)) rfl
 have y5:=fun x (hx:In C x)=>show x.cell? ⟨J,5,none⟩=some (.int .i64 n2) from Aa (h.below (hCb _ hx)) rfl
 have hf:=fun x j (hx:In C x)=>show x.frozen? ⟨J,j,none⟩=false from Ad (h.below (hCb _ hx))
 clear h;cases e0:(s0.toList==s.toList)
 case true=>
  have d0:s0=s:=by rw[BL] at e0;simpa using e0
  have Hc:=zh (show DW [(s0,n0),(s1,n1),(s2,n2)] s=[(s,n0+1),(s1,n1),(s2,n2)] from by simp[DW,d0]);clear d0;have hw1:=Be (n:=n0+1) (by omega)
  go_enter Tryz.func125, Tryz.ntmps125
  go_wp2_with fail;go_loopw [5] (fun i wr=>i=.int .i64 0∧In C wr) (fun i _=>4-(intOf i).toNat)
  case atStart=>exact⟨rfl,hC1⟩
  obtain⟨rfl,hCw⟩:=hrel
  ·clear hC1
   go_wp2_with fail;have hb5:Fj J (wr.setCell ⟨J,0,none⟩ (.string s)) s s1 s2 n0 n1 n2:=Ah (j:=0) (HH.out _ hCw) _;have hB5:=(HB.out _ hCw).setCell (p:=⟨J,0,none⟩) hB (.string s);generalize wr.setCell ⟨J,0,none⟩ (.string s)=x5 at*;have hb6:Fj J x5.drew s s1 s2 n0 n1 n2:=hb5;have hB6:=hB5.drew;clear hb5 hB5 hCw y0 y1 y2 y3 y4 y5 hf HH HB hC hCb hCg hCd;refine Du (by kernel_rfl) rfl ?_;generalize x5.drew=x6 at*;refine tk0 0 (.pointer (some ⟨J,0,none⟩)) (fun w=>?_) ?_
   ·go_simp
   simp only[tkS];refine tk0 1 (.int .i64 0) (fun w=>?_) ?_
   ·go_simp
   simp only[tkS];refine tk0 2 (.pointer (some ⟨J,0,none⟩)) (fun w=>?_) ?_
   ·go_simp
   simp only[tkS];refine tk0 3 (.pointer (some ⟨J,3,none⟩)) (fun w=>?_) ?_
   ·go_simp
   simp only[tkS];refine tk0 4 (.pointer (some ⟨J,3,none⟩)) (fun w=>?_) ?_
   ·go_simp
   simp only[tkS];refine tk0 7 (.pointer (some ⟨J,0,none⟩)) (fun w=>?_) ?_
   ·go_simp
   simp only[tkS];refine tk0 8 (.pointer (some ⟨J,3,none⟩)) (fun w=>?_) ?_
   ·go_simp
   simp only[tkS];have c6:x6.cell? ⟨J,3,none⟩=some (.int .i64 n0):=Aa hb6 rfl;have f6:x6.frozen? ⟨J,3,none⟩=false:=Ad hb6;have HE:Fj J (x6.setCell ⟨J,3,none⟩ (.int .i64 (n0+1))) s s1 s2 (n0+1) n1 n2:=Ah (j:=3) hb6 _;have HBe:=hB6.setCell (p:=⟨J,3,none⟩) hB (.int .i64 (n0+1));have HE1:=zh HE;have HBe1:=zh HBe;clear HE HBe hb6 hB6;refine tk1 5 (fun K hK=>?_);go_wp2_with fail;refine tk1 6 (fun K hK=>?_);go_wp2_with fail;refine tk1 9 (fun K hK=>?_);go_wp2_with fail;refine tk1 10 (fun K hK=>?_);go_wp2_with fail;refine BN (by kernel_rfl) ?_;go_wp2_with fail;refine bodyPost_ret (results_none rfl _ _ _) rfl ?_;exact⟨rfl,HBe1.out,_,_,_,_,_,_,Hc.out,HE1.out⟩
 have d0:¬s0=s:=by rw[BL] at e0;simpa using e0
 by_cases z0:n0=0
 case pos=>
  have Hc:=zh (show DW [(s0,n0),(s1,n1),(s2,n2)] s=[(s,n0+1),(s1,n1),(s2,n2)] from by simp[DW,z0]);have zb:(n0==0)=true:=by simpa using z0
  clear d0 z0;have hw1:=Be (n:=n0+1) (by omega)
  go_enter Tryz.func125, Tryz.ntmps125
  go_wp2_with fail;go_loopw [5] (fun i wr=>i=.int .i64 0∧In C wr) (fun i _=>4-(intOf i).toNat)
  case atStart=>exact⟨rfl,hC1⟩
  obtain⟨rfl,hCw⟩:=hrel
  ·clear hC1
   go_wp2_with fail;have hb5:Fj J (wr.setCell ⟨J,0,none⟩ (.string s)) s s1 s2 n0 n1 n2:=Ah (j:=0) (HH.out _ hCw) _;have hB5:=(HB.out _ hCw).setCell (p:=⟨J,0,none⟩) hB (.string s);generalize wr.setCell ⟨J,0,none⟩ (.string s)=x5 at*;have hb6:Fj J x5.drew s s1 s2 n0 n1 n2:=hb5;have hB6:=hB5.drew;clear hb5 hB5 hCw y0 y1 y2 y3 y4 y5 hf HH HB hC hCb hCg hCd;refine Du (by kernel_rfl) rfl ?_;generalize x5.drew=x6 at*;refine tk0 0 (.pointer (some ⟨J,0,none⟩)) (fun w=>?_) ?_
   ·go_simp
   simp only[tkS];refine tk0 1 (.int .i64 0) (fun w=>?_) ?_
   ·go_simp
   simp only[tkS];refine tk0 2 (.pointer (some ⟨J,0,none⟩)) (fun w=>?_) ?_
   ·go_simp
   simp only[tkS];refine tk0 3 (.pointer (some ⟨J,3,none⟩)) (fun w=>?_) ?_
   ·go_simp
   simp only[tkS];refine tk0 4 (.pointer (some ⟨J,3,none⟩)) (fun w=>?_) ?_
   ·go_simp
   simp only[tkS];refine tk0 7 (.pointer (some ⟨J,0,none⟩)) (fun w=>?_) ?_
   ·go_simp
   simp only[tkS];refine tk0 8 (.pointer (some ⟨J,3,none⟩)) (fun w=>?_) ?_
   ·go_simp
   simp only[tkS];have c6:x6.cell? ⟨J,3,none⟩=some (.int .i64 n0):=Aa hb6 rfl;have f6:x6.frozen? ⟨J,3,none⟩=false:=Ad hb6;have HE:Fj J (x6.setCell ⟨J,3,none⟩ (.int .i64 (n0+1))) s s1 s2 (n0+1) n1 n2:=Ah (j:=3) hb6 _;have HBe:=hB6.setCell (p:=⟨J,3,none⟩) hB (.int .i64 (n0+1));have HE1:=zh HE;have HBe1:=zh HBe;clear HE HBe hb6 hB6;refine tk1 5 (fun K hK=>?_);go_wp2_with fail;refine tk1 6 (fun K hK=>?_);go_wp2_with fail;refine tk1 9 (fun K hK=>?_);go_wp2_with fail;refine tk1 10 (fun K hK=>?_);go_wp2_with fail;refine BN (by kernel_rfl) ?_;go_wp2_with fail;refine bodyPost_ret (results_none rfl _ _ _) rfl ?_;exact⟨rfl,HBe1.out,_,_,_,_,_,_,Hc.out,HE1.out⟩
 have zb0:(n0==0)=false:=by simpa using z0
 cases e1:(s1.toList==s.toList)
 case true=>
  have d1:s1=s:=by rw[BL] at e1;simpa using e1
  have Hc:=zh (show DW [(s0,n0),(s1,n1),(s2,n2)] s=[(s0,n0),(s,n1+1),(s2,n2)] from by simp[DW,d1,d0,z0]);clear d1;have hw1:=Be (n:=n1+1) (by omega)
  go_enter Tryz.func125, Tryz.ntmps125
  go_wp2_with fail;go_loopw [5] (fun i wr=>i=.int .i64 0∧In C wr∨i=.int .i64 1∧In C wr) (fun i _=>4-(intOf i).toNat)
  case atStart=>exact .inl ⟨rfl,hC1⟩
  rcases hrel with⟨rfl,hCw⟩|⟨rfl,hCw⟩
  ·clear hC1
   go_wp2_with fail;go_roundw
   case rel=>exact .inr (⟨rfl,hCw⟩)
   case measure=>simp[intOf]
  ·clear hC1
   go_wp2_with fail;have hb5:Fj J (wr.setCell ⟨J,1,none⟩ (.string s)) s0 s s2 n0 n1 n2:=Ah (j:=1) (HH.out _ hCw) _;have hB5:=(HB.out _ hCw).setCell (p:=⟨J,1,none⟩) hB (.string s);generalize wr.setCell ⟨J,1,none⟩ (.string s)=x5 at*;have hb6:Fj J x5.drew s0 s s2 n0 n1 n2:=hb5;have hB6:=hB5.drew;clear hb5 hB5 hCw y0 y1 y2 y3 y4 y5 hf HH HB hC hCb hCg hCd;refine Du (by kernel_rfl) rfl ?_;generalize x5.drew=x6 at*;refine tk0 0 (.pointer (some ⟨J,0,none⟩)) (fun w=>?_) ?_
   ·go_simp
   simp only[tkS];refine tk0 1 (.int .i64 1) (fun w=>?_) ?_
   ·go_simp
   simp only[tkS];refine tk0 2 (.pointer (some ⟨J,0,none⟩)) (fun w=>?_) ?_
   ·go_simp
   simp only[tkS];refine tk0 3 (.pointer (some ⟨J,3,none⟩)) (fun w=>?_) ?_
   ·go_simp
   simp only[tkS];refine tk0 4 (.pointer (some ⟨J,4,none⟩)) (fun w=>?_) ?_
   ·go_simp
   simp only[tkS];refine tk0 7 (.pointer (some ⟨J,0,none⟩)) (fun w=>?_) ?_
   ·go_simp
   simp only[tkS];refine tk0 8 (.pointer (some ⟨J,3,none⟩)) (fun w=>?_) ?_
   ·go_simp
   simp only[tkS];have c6:x6.cell? ⟨J,4,none⟩=some (.int .i64 n1):=Aa hb6 rfl;have f6:x6.frozen? ⟨J,4,none⟩=false:=Ad hb6;have HE:Fj J (x6.setCell ⟨J,4,none⟩ (.int .i64 (n1+1))) s0 s s2 n0 (n1+1) n2:=Ah (j:=4) hb6 _;have HBe:=hB6.setCell (p:=⟨J,4,none⟩) hB (.int .i64 (n1+1));have HE1:=zh HE;have HBe1:=zh HBe;clear HE HBe hb6 hB6;refine tk1 5 (fun K hK=>?_);go_wp2_with fail;refine tk1 6 (fun K hK=>?_);go_wp2_with fail;refine tk1 9 (fun K hK=>?_);go_wp2_with fail;refine tk1 10 (fun K hK=>?_);go_wp2_with fail;refine BN (by kernel_rfl) ?_;go_wp2_with fail;refine bodyPost_ret (results_none rfl _ _ _) rfl ?_;exact⟨rfl,HBe1.out,_,_,_,_,_,_,Hc.out,HE1.out⟩
 have d1:¬s1=s:=by rw[BL] at e1;simpa using e1
 by_cases z1:n1=0
 case pos=>
  have Hc:=zh (show DW [(s0,n0),(s1,n1),(s2,n2)] s=[(s0,n0),(s,n1+1),(s2,n2)] from by simp[DW,z1,d0,z0]);have zb:(n1==0)=true:=by simpa using z1
  clear d1 z1;have hw1:=Be (n:=n1+1) (by omega)
  go_enter Tryz.func125, Tryz.ntmps125
  go_wp2_with fail;go_loopw [5] (fun i wr=>i=.int .i64 0∧In C wr∨i=.int .i64 1∧In C wr) (fun i _=>4-(intOf i).toNat)
  case atStart=>exact .inl ⟨rfl,hC1⟩
  rcases hrel with⟨rfl,hCw⟩|⟨rfl,hCw⟩
  ·clear hC1
   go_wp2_with fail;go_roundw
   case rel=>exact .inr (⟨rfl,hCw⟩)
   case measure=>simp[intOf]
  ·clear hC1
   go_wp2_with fail;have hb5:Fj J (wr.setCell ⟨J,1,none⟩ (.string s)) s0 s s2 n0 n1 n2:=Ah (j:=1) (HH.out _ hCw) _;have hB5:=(HB.out _ hCw).setCell (p:=⟨J,1,none⟩) hB (.string s);generalize wr.setCell ⟨J,1,none⟩ (.string s)=x5 at*;have hb6:Fj J x5.drew s0 s s2 n0 n1 n2:=hb5;have hB6:=hB5.drew;clear hb5 hB5 hCw y0 y1 y2 y3 y4 y5 hf HH HB hC hCb hCg hCd;refine Du (by kernel_rfl) rfl ?_;generalize x5.drew=x6 at*;refine tk0 0 (.pointer (some ⟨J,0,none⟩)) (fun w=>?_) ?_
   ·go_simp
   simp only[tkS];refine tk0 1 (.int .i64 1) (fun w=>?_) ?_
   ·go_simp
   simp only[tkS];refine tk0 2 (.pointer (some ⟨J,0,none⟩)) (fun w=>?_) ?_
   ·go_simp
   simp only[tkS];refine tk0 3 (.pointer (some ⟨J,3,none⟩)) (fun w=>?_) ?_
   ·go_simp
   simp only[tkS];refine tk0 4 (.pointer (some ⟨J,4,none⟩)) (fun w=>?_) ?_
   ·go_simp
   simp only[tkS];refine tk0 7 (.pointer (some ⟨J,0,none⟩)) (fun w=>?_) ?_
   ·go_simp
   simp only[tkS];refine tk0 8 (.pointer (some ⟨J,3,none⟩)) (fun w=>?_) ?_
   ·go_simp
   simp only[tkS];have c6:x6.cell? ⟨J,4,none⟩=some (.int .i64 n1):=Aa hb6 rfl;have f6:x6.frozen? ⟨J,4,none⟩=false:=Ad hb6;have HE:Fj J (x6.setCell ⟨J,4,none⟩ (.int .i64 (n1+1))) s0 s s2 n0 (n1+1) n2:=Ah (j:=4) hb6 _;have HBe:=hB6.setCell (p:=⟨J,4,none⟩) hB (.int .i64 (n1+1));have HE1:=zh HE;have HBe1:=zh HBe;clear HE HBe hb6 hB6;refine tk1 5 (fun K hK=>?_);go_wp2_with fail;refine tk1 6 (fun K hK=>?_);go_wp2_with fail;refine tk1 9 (fun K hK=>?_);go_wp2_with fail;refine tk1 10 (fun K hK=>?_);go_wp2_with fail;refine BN (by kernel_rfl) ?_;go_wp2_with fail;refine bodyPost_ret (results_none rfl _ _ _) rfl ?_;exact⟨rfl,HBe1.out,_,_,_,_,_,_,Hc.out,HE1.out⟩
 have zb1:(n1==0)=false:=by simpa using z1
 cases e2:(s2.toList==s.toList)
 case true=>
  have d2:s2=s:=by rw[BL] at e2;simpa using e2
  have Hc:=zh (show DW [(s0,n0),(s1,n1),(s2,n2)] s=[(s0,n0),(s1,n1),(s,n2+1)] from by simp[DW,d2,d0,z0,d1,z1]);clear d2;have hw1:=Be (n:=n2+1) (by omega)
  go_enter Tryz.func125, Tryz.ntmps125
  go_wp2_with fail;go_loopw [5] (fun i wr=>i=.int .i64 0∧In C wr∨i=.int .i64 1∧In C wr∨i=.int .i64 2∧In C wr) (fun i _=>4-(intOf i).toNat)
  case atStart=>exact .inl ⟨rfl,hC1⟩
  rcases hrel with⟨rfl,hCw⟩|⟨rfl,hCw⟩|⟨rfl,hCw⟩
  ·clear hC1
   go_wp2_with fail;go_roundw
   case rel=>exact .inr (.inl ⟨rfl,hCw⟩)
   case measure=>simp[intOf]
  ·clear hC1
   go_wp2_with fail;go_roundw
   case rel=>exact .inr (.inr (⟨rfl,hCw⟩))
   case measure=>simp[intOf]
  ·clear hC1
   go_wp2_with fail;have hb5:Fj J (wr.setCell ⟨J,2,none⟩ (.string s)) s0 s1 s n0 n1 n2:=Ah (j:=2) (HH.out _ hCw) _;have hB5:=(HB.out _ hCw).setCell (p:=⟨J,2,none⟩) hB (.string s);generalize wr.setCell ⟨J,2,none⟩ (.string s)=x5 at*;have hb6:Fj J x5.drew s0 s1 s n0 n1 n2:=hb5;have hB6:=hB5.drew;clear hb5 hB5 hCw y0 y1 y2 y3 y4 y5 hf HH HB hC hCb hCg hCd;refine Du (by kernel_rfl) rfl ?_;generalize x5.drew=x6 at*;refine tk0 0 (.pointer (some ⟨J,0,none⟩)) (fun w=>?_) ?_
   ·go_simp
   simp only[tkS];refine tk0 1 (.int .i64 2) (fun w=>?_) ?_
   ·go_simp
   simp only[tkS];refine tk0 2 (.pointer (some ⟨J,0,none⟩)) (fun w=>?_) ?_
   ·go_simp
   simp only[tkS];refine tk0 3 (.pointer (some ⟨J,3,none⟩)) (fun w=>?_) ?_
   ·go_simp
   simp only[tkS];refine tk0 4 (.pointer (some ⟨J,5,none⟩)) (fun w=>?_) ?_
   ·go_simp
   simp only[tkS];refine tk0 7 (.pointer (some ⟨J,0,none⟩)) (fun w=>?_) ?_
   ·go_simp
   simp only[tkS];refine tk0 8 (.pointer (some ⟨J,3,none⟩)) (fun w=>?_) ?_
   ·go_simp
   simp only[tkS];have c6:x6.cell? ⟨J,5,none⟩=some (.int .i64 n2):=Aa hb6 rfl;have f6:x6.frozen? ⟨J,5,none⟩=false:=Ad hb6;have HE:Fj J (x6.setCell ⟨J,5,none⟩ (.int .i64 (n2+1))) s0 s1 s n0 n1 (n2+1):=Ah (j:=5) hb6 _;have HBe:=hB6.setCell (p:=⟨J,5,none⟩) hB (.int .i64 (n2+1));have HE1:=zh HE;have HBe1:=zh HBe;clear HE HBe hb6 hB6;refine tk1 5 (fun K hK=>?_);go_wp2_with fail;refine tk1 6 (fun K hK=>?_);go_wp2_with fail;refine tk1 9 (fun K hK=>?_);go_wp2_with fail;refine tk1 10 (fun K hK=>?_);go_wp2_with fail;refine BN (by kernel_rfl) ?_;go_wp2_with fail;refine bodyPost_ret (results_none rfl _ _ _) rfl ?_;exact⟨rfl,HBe1.out,_,_,_,_,_,_,Hc.out,HE1.out⟩
 have d2:¬s2=s:=by rw[BL] at e2;simpa using e2
 by_cases z2:n2=0
 case pos=>
  have Hc:=zh (show DW [(s0,n0),(s1,n1),(s2,n2)] s=[(s0,n0),(s1,n1),(s,n2+1)] from by simp[DW,z2,d0,z0,d1,z1]);have zb:(n2==0)=true:=by simpa using z2
  clear d2 z2;have hw1:=Be (n:=n2+1) (by omega)
  go_enter Tryz.func125, Tryz.ntmps125
  go_wp2_with fail;go_loopw [5] (fun i wr=>i=.int .i64 0∧In C wr∨i=.int .i64 1∧In C wr∨i=.int .i64 2∧In C wr) (fun i _=>4-(intOf i).toNat)
  case atStart=>exact .inl ⟨rfl,hC1⟩
  rcases hrel with⟨rfl,hCw⟩|⟨rfl,hCw⟩|⟨rfl,hCw⟩
  ·clear hC1
   go_wp2_with fail;go_roundw
   case rel=>exact .inr (.inl ⟨rfl,hCw⟩)
   case measure=>simp[intOf]
  ·clear hC1
   go_wp2_with fail;go_roundw
   case rel=>exact .inr (.inr (⟨rfl,hCw⟩))
   case measure=>simp[intOf]
  ·clear hC1
   go_wp2_with fail;have hb5:Fj J (wr.setCell ⟨J,2,none⟩ (.string s)) s0 s1 s n0 n1 n2:=Ah (j:=2) (HH.out _ hCw) _;have hB5:=(HB.out _ hCw).setCell (p:=⟨J,2,none⟩) hB (.string s);generalize wr.setCell ⟨J,2,none⟩ (.string s)=x5 at*;have hb6:Fj J x5.drew s0 s1 s n0 n1 n2:=hb5;have hB6:=hB5.drew;clear hb5 hB5 hCw y0 y1 y2 y3 y4 y5 hf HH HB hC hCb hCg hCd;refine Du (by kernel_rfl) rfl ?_;generalize x5.drew=x6 at*;refine tk0 0 (.pointer (some ⟨J,0,none⟩)) (fun w=>?_) ?_
   ·go_simp
   simp only[tkS];refine tk0 1 (.int .i64 2) (fun w=>?_) ?_
   ·go_simp
   simp only[tkS];refine tk0 2 (.pointer (some ⟨J,0,none⟩)) (fun w=>?_) ?_
   ·go_simp
   simp only[tkS];refine tk0 3 (.pointer (some ⟨J,3,none⟩)) (fun w=>?_) ?_
   ·go_simp
   simp only[tkS];refine tk0 4 (.pointer (some ⟨J,5,none⟩)) (fun w=>?_) ?_
   ·go_simp
   simp only[tkS];refine tk0 7 (.pointer (some ⟨J,0,none⟩)) (fun w=>?_) ?_
   ·go_simp
   simp only[tkS];refine tk0 8 (.pointer (some ⟨J,3,none⟩)) (fun w=>?_) ?_
   ·go_simp
   simp only[tkS];have c6:x6.cell? ⟨J,5,none⟩=some (.int .i64 n2):=Aa hb6 rfl;have f6:x6.frozen? ⟨J,5,none⟩=false:=Ad hb6;have HE:Fj J (x6.setCell ⟨J,5,none⟩ (.int .i64 (n2+1))) s0 s1 s n0 n1 (n2+1):=Ah (j:=5) hb6 _;have HBe:=hB6.setCell (p:=⟨J,5,none⟩) hB (.int .i64 (n2+1));have HE1:=zh HE;have HBe1:=zh HBe;clear HE HBe hb6 hB6;refine tk1 5 (fun K hK=>?_);go_wp2_with fail;refine tk1 6 (fun K hK=>?_);go_wp2_with fail;refine tk1 9 (fun K hK=>?_);go_wp2_with fail;refine tk1 10 (fun K hK=>?_);go_wp2_with fail;refine BN (by kernel_rfl) ?_;go_wp2_with fail;refine bodyPost_ret (results_none rfl _ _ _) rfl ?_;exact⟨rfl,HBe1.out,_,_,_,_,_,_,Hc.out,HE1.out⟩
 have zb2:(n2==0)=false:=by simpa using z2
 have Hc:=zh (show DW [(s0,n0),(s1,n1),(s2,n2)] s=[(s0,n0),(s1,n1),(s2,n2)] from by simp[DW,d0,d1,d2,z0,z1,z2]);clear b0 b1 b2 d0 d1 d2
 go_enter Tryz.func125, Tryz.ntmps125
 go_wp2_with fail;go_loopw [5] (fun i wr=>i=.int .i64 0∧In C wr∨i=.int .i64 1∧In C wr∨i=.int .i64 2∧In C wr∨i=.int .i64 3∧In C wr) (fun i _=>4-(intOf i).toNat)
 case atStart=>exact .inl ⟨rfl,hC1⟩
 rcases hrel with⟨rfl,hCw⟩|⟨rfl,hCw⟩|⟨rfl,hCw⟩|⟨rfl,hCw⟩
 ·clear hC1
  go_wp2_with fail;go_roundw
  case rel=>exact .inr (.inl ⟨rfl,hCw⟩)
  case measure=>simp[intOf]
 ·clear hC1
  go_wp2_with fail;go_roundw
  case rel=>exact .inr (.inr (.inl ⟨rfl,hCw⟩))
  case measure=>simp[intOf]
 ·clear hC1
  go_wp2_with fail;go_roundw
  case rel=>exact .inr (.inr (.inr (⟨rfl,hCw⟩)))
  case measure=>simp[intOf]
 ·clear hC1
  go_wp2_with fail;go_end0;exact⟨rfl,HB.out _ hCw,_,_,_,_,_,_,Hc.out,HH.out _ hCw⟩
variable [Ghost]
def sa (l:List ByteArray) (i:Nat):ByteArray:=at_ ByteArray.empty l i
theorem Oz {l:List ByteArray} {i:Nat} (h:i<l.length):sa l i=l[i]:=Ni h
def De (S:Nat→Prop) (w:World) (v:Value) (l:List ByteArray):Prop:=
 Sl S w v 1 16 l.length (fun i=>[.string (sa l i)])∧∀s∈l,s.size≤140737488351232
theorem De.below {S:Nat→Prop} {w w':World} {v:Value} {l:List ByteArray} (h:De S w v l) (hb:Below w.heap.size w w'):De S w' v l:=⟨h.1.below hb,h.2⟩
theorem De.weaken {S S':Nat→Prop} {w:World} {v:Value} {l:List ByteArray} (h:De S w v l) (hs:∀b,S b→S' b):De S' w v l:=⟨h.1.weaken hs,h.2⟩
theorem De.same {S:Nat→Prop} {w w':World} {v:Value} {l:List ByteArray} (h:De S w v l) (hs:Km S w w'):De S w' v l:=⟨h.1.same hs,h.2⟩
theorem De.shape {S:Nat→Prop} {w:World} {v:Value} {l:List ByteArray} (h:De S w v l):∃p:Option Addr×Nat,v=.slice p.1 l.length p.2:=
 let⟨a,cap,hv,_⟩:=h.1;⟨(a,cap),hv⟩
theorem De.each {S:Nat→Prop} {w:World} {v:Value} {l:List ByteArray} (h:De S w v l) {i:Nat} (hi:i<l.length):(sa l i).size≤140737488351232:=h.2 _ (Ko hi)
theorem De.open {S:Nat→Prop} {w:World} {v:Value} {l:List ByteArray} (h:De S w v l):
  ∃a n cap,Hid (n=l.length)∧v=.slice a n cap∧n≤cap∧cap≤9223372036854775807∧n*16≤140737488351232∧
   (0<n→∃b off,a=some ⟨b,off,none⟩∧S b∧∀i x,i<n→Below w.heap.size w x→x.cell? ⟨b,off+i,none⟩=some (.string (sa l i))):=by
 obtain⟨a,cap,hv,h1,h2,h3,h4⟩:=h.1;refine⟨a,l.length,cap,rfl,hv,h1,h2,h3,fun hn=>?_⟩;obtain⟨b,off,ha,hS,hc⟩:=h4 hn;exact⟨b,off,ha,hS.1,fun i x hi hb=>by have:=Ae hb (hc i hi 0 _ rfl);simpa using this⟩
theorem De.mk {S:Nat→Prop} {w:World} {l:List ByteArray} {b off cap:Nat} (h1:l.length≤cap) (h2:cap≤9223372036854775807) (h3:l.length*16≤140737488351232) (hS:SF S w b off l.length)
  (hc:∀i,i<l.length→w.cell? ⟨b,off+i,none⟩=some (.string (sa l i))) (hi:∀s∈l,s.size≤140737488351232):De S w (.slice (some ⟨b,off,none⟩) l.length cap) l:=
 ⟨⟨_,cap,rfl,h1,h2,h3,fun _=>⟨b,off,rfl,by rw[Nat.mul_one];exact hS,fun i hn j u hu=>by
  match j,hu with
  |0,hu=>cases hu;rw[Nat.mul_one];exact hc i hn⟩⟩,hi⟩
def IQ (m:Nat) (b:List (ByteArray×Int)):Prop:=∀p∈b,0≤p.2∧p.2≤(m:Int)
theorem Rr {m:Nat} {b:List (ByteArray×Int)} (h:IQ m b) (s:ByteArray):IQ (m+1) (DW b s):=by
 induction b with
 |nil=>intro p hp;cases hp
 | cons x r ih=>
  obtain⟨v,n⟩:=x;intro p hp;have h1:=h (v,n) List.mem_cons_self;simp only at h1;unfold DW at hp;split at hp
  ·rcases List.mem_cons.1 hp with rfl|hp
   ·show 0≤n+1∧n+1≤((m+1:Nat):Int);omega
   ·have:=h p (List.mem_cons_of_mem _ hp);omega
  ·rcases List.mem_cons.1 hp with rfl|hp
   ·show 0≤n∧n≤((m+1:Nat):Int);omega
   ·exact ih (fun q hq=>h q (List.mem_cons_of_mem _ hq)) p hp
theorem Mn {m:Nat} {b:List (ByteArray×Int)} (h:IQ m b) (s:ByteArray):IQ (m+1) (GA b s):=by
 unfold GA;split
 ·intro p hp;have:=h p hp;omega
 ·exact Rr h s
def Qb (J m:Nat) (w:World) (b:List (ByteArray×Int)):Prop:=IQ m b∧∃s0 s1 s2 n0 n1 n2,b=[(s0,n0),(s1,n1),(s2,n2)]∧Fj J w s0 s1 s2 n0 n1 n2
theorem Qb.is {J m:Nat} {w:World} {b:List (ByteArray×Int)} (h:Qb J m w b) (hm:m≤1000):Zz J w b:=by
 obtain⟨hc,s0,s1,s2,n0,n1,n2,rfl,hb⟩:=h;have h0:=hc (s0,n0) (by simp);have h1:=hc (s1,n1) (by simp);have h2:=hc (s2,n2) (by simp);simp only at h0 h1 h2;exact⟨s0,s1,s2,n0,n1,n2,rfl,hb,by omega,by omega,by omega⟩
theorem ZN {J B m:Nat} {w:World} {b:List (ByteArray×Int)} (h:Qb J m w b) (hm:m≤1000) (hB:B≤J) (s:ByteArray) (hs:s≠ByteArray.empty):
  Calls Tryz.prog 125 #[.pointer (some ⟨J,0,none⟩),.string s] w fun e w'=>e=.returned (.tuple #[])∧Below B w w'∧Qb J (m+1) w' (GA b s):=by
 refine(WV (h.is hm) hB s).mono ?_;rintro e w' ⟨rfl,hb,s0,s1,s2,n0,n1,n2,he,hbx⟩;have:=Mn h.1 s;unfold GA at this⊢;rw[if_neg hs] at this⊢;exact⟨rfl,hb,this,s0,s1,s2,n0,n1,n2,he,hbx⟩
theorem Qb.skip {J m:Nat} {w:World} {b:List (ByteArray×Int)} (h:Qb J m w b):Qb J (m+1) w (GA b ByteArray.empty):=by
 refine⟨Mn h.1 _,?_⟩;unfold GA;rw[if_pos rfl];exact h.2
def Mi (l:List ByteArray) (k:Nat):List (ByteArray×Int):=(l.take k).foldl GA YK
theorem WU {l:List ByteArray} {k:Nat} (h:k<l.length):Mi l (k+1)=GA (Mi l k) (sa l k):=by
 unfold Mi;rw[List.take_succ_eq_append_getElem h,List.foldl_append,Oz h];rfl
theorem YL (l:List ByteArray):Mi l l.length=Pt l:=by unfold Mi Pt;rw[List.take_length]
theorem RO {s:ByteArray} (h:s≠ByteArray.empty):s.toList.isEmpty=false:=by
 have e:=BL s ByteArray.empty;have e0:ByteArray.empty.toList=[]:=by decide+kernel
 rw[e0] at e;cases hl:s.toList with
 |nil=>rw[hl] at e;simp at e;exact absurd e h
 |cons a r=>rfl
theorem VV (l:List ByteArray) (v:Value) (S:Nat→Prop) (w:World) (h:De S w v l):
  Calls Tryz.prog 98 #[v] w fun e w'=>e=.returned (.tuple #[.string (CS l).1,.bool (CS l).2])∧Below w.heap.size w w':=by
 obtain⟨a,n,cap,HN,rfl,h1,h2,h3,h4⟩:=h.open;have HE:=zh h.2;clear h;by_cases hn:n=3
 case neg=>
  have ht:CS l=(ByteArray.empty,false):=by unfold CS;rw[if_pos (by rw[←HN.out];exact hn)]
  rw[ht];have hq:((n:Int) !=3)=true:=by simp;omega
  go_enter Tryz.func98, Tryz.ntmps98
  go_wp2_with fail;go_ret2;exact⟨rfl,(Below.refl _ _).alloc (Nat.le_refl _) _⟩
 obtain rfl:=hn;obtain⟨b,off,rfl,hS,k0⟩:=h4 (by omega);clear h4 h1 h2 h3;have ht:CS l=told (((Pt l).find? EG).map (·.1)):=by unfold CS;rw[if_neg (by rw[←HN.out];simp)]
 rw[ht];clear ht;generalize hT:told (((Pt l).find? EG).map (·.1))=T;have HT0:=zh hT;clear hT;have HX0:=zh (show Qb w.heap.size 0 (w.alloc (.cells #[.string ⟨#[]⟩,.string ⟨#[]⟩,.string ⟨#[]⟩,.int .i64 0,.int .i64 0,.int .i64 0] 155)) (Mi l 0) from
  ⟨by intro p hp;simp[Mi,YK] at hp;subst hp;simp,_,_,_,_,_,_,rfl,by unfold Fj;exact heap_alloc_new w _⟩)
 have HB0:=zh (show Below w.heap.size w (w.alloc (.cells #[.string ⟨#[]⟩,.string ⟨#[]⟩,.string ⟨#[]⟩,.int .i64 0,.int .i64 0,.int .i64 0] 155)) from(Below.refl _ _).alloc (Nat.le_refl _) _)
 go_enter Tryz.func98, Tryz.ntmps98
 go_wp2_with fail;go_loopw [14] (fun i wr=>∃k:Nat,k≤3∧i=.int .i64 k∧Hid (Qb w.heap.size k wr (Mi l k))∧Below w.heap.size w wr) (fun i _=>3-(intOf i).toNat)
 case atStart=>exact⟨0,by omega,rfl,HX0,HB0.out⟩
 obtain⟨k,hk,rfl,HX,hbw⟩:=hrel;clear HX0 HB0;by_cases hlt:k<3
 case pos=>
  have x0:=k0 k wr hlt hbw;have hi1:=zk k;have hi2:(k:Int)<3:=by omega
  have Hnx:=zh (WU (l:=l) (k:=k) (by rw[←HN.out];exact hlt));clear k0;generalize sa l k=s at*;by_cases hs:s=ByteArray.empty
  case pos=>
   subst hs;have hq:ByteArray.empty.toList.isEmpty=true:=by decide+kernel
   go_wp2_with fail;go_roundw
   case rel=>exact⟨k+1,by omega,by go_num,by rw[Hnx.out];exact HX.out.skip,hbw⟩
   case measure=>simp[intOf];omega
  have hq:s.toList.isEmpty=false:=RO hs;have HC:=zh (ZN HX.out (by omega) (Nat.le_refl _) s hs);clear HX hs;go_wp2_with fail;refine HC.out.mono ?_;rintro e w2 ⟨rfl,hb2,hx2⟩;have HX2:=zh hx2;have hbw2:=hbw.trans hb2;clear hx2 hb2 hbw;go_wp2_with fail;go_roundw
  case rel=>exact⟨k+1,by omega,by go_num,by rw[Hnx.out];exact HX2.out,hbw2⟩
  case measure=>simp[intOf];omega
 have hk3:k=3:=by omega
 have hkI:((k:Nat):Int)=3:=by omega
 rw[hkI];clear hkI hlt hk;have hx:=HX.out;rw[hk3,HN.out,YL] at hx;clear hk3;obtain⟨hc,s0,s1,s2,n0,n1,n2,he,hb⟩:=hx;rw[he] at hc;have hT:=HT0.out;rw[he] at hT;have b0:0≤n0∧n0≤3:=by have:=hc (s0,n0) (by simp);have h3:=HN.out;simp only at this;omega
 have b1:0≤n1∧n1≤3:=by have:=hc (s1,n1) (by simp);have h3:=HN.out;simp only at this;omega
 have b2:0≤n2∧n2≤3:=by have:=hc (s2,n2) (by simp);have h3:=HN.out;simp only at this;omega
 have HT:=zh hT;clear hT HT0 hc he HX HN HE k0;generalize hJ:w.heap.size=J at*;obtain⟨C,hC,hC1,_⟩:=Av wr;have hCb:=hC.below;have hCg:=BI hC;have HBw:=zh (fun x (hx:In C x)=>show Below w.heap.size w x from by rw[hJ];exact hbw.trans ((hCb _ hx).mono (by have:=lt_of_block hb;omega)));have y0:=fun x (hx:In C x)=>show x.cell? ⟨J,0,none⟩=some (.string s0) from Aa (hb.below (hCb _ hx)) rfl
 have y1:=fun x (hx:In C x)=>show x.cell? ⟨J,1,none⟩=some (.string s1) from Aa (hb.below (hCb _ hx)) rfl
 have y2:=fun x (hx:In C x)=>show x.cell? ⟨J,2,none⟩=some (.string s2) from Aa (hb.below (hCb _ hx)) rfl
 have y3:=fun x (hx:In C x)=>show x.cell? ⟨J,3,none⟩=some (.int .i64 n0) from Aa (hb.below (hCb _ hx)) rfl
 have y4:=fun x (hx:In C x)=>show x.cell? ⟨J,4,none⟩=some (.int .i64 n1) from Aa (hb.below (hCb _ hx)) rfl
 have y5:=fun x (hx:In C x)=>show x.cell? ⟨J,5,none⟩=some (.int .i64 n2) from Aa (hb.below (hCb _ hx)) rfl
 have HPf:=zh (fun(s:ByteArray) x=>show Calls Tryz.prog 126 #[.string s,.string ⟨#[121,101,115]⟩] x fun e w'=>e=.returned (.bool (IC s))∧w'=x from Tryz.strings_HasPrefix s ⟨#[121,101,115]⟩ x);clear hb hbw hCb hC hS;have ix0:=fun(x:World)=>show(Instr.index 153 (.agg #[.int .i64 n0,.int .i64 n1,.int .i64 n2]) (.int .i64 0)).run Tryz.prog x=.ok (.int .i64 n0) x from by rfl
 have ix1:=fun(x:World)=>show(Instr.index 153 (.agg #[.int .i64 n0,.int .i64 n1,.int .i64 n2]) (.int .i64 1)).run Tryz.prog x=.ok (.int .i64 n1) x from by rfl
 have ix2:=fun(x:World)=>show(Instr.index 153 (.agg #[.int .i64 n0,.int .i64 n1,.int .i64 n2]) (.int .i64 2)).run Tryz.prog x=.ok (.int .i64 n2) x from by rfl
 go_wp2_with fail;go_loopw [25] (fun i wy=>(i=.int .i64 0∧In C wy)∨(i=.int .i64 1∧In C wy∧Hid (EG (s0,n0)=false))∨(i=.int .i64 2∧In C wy∧Hid (EG (s0,n0)=false)∧Hid (EG (s1,n1)=false))∨(i=.int .i64 3∧In C wy∧Hid (EG (s0,n0)=false)∧Hid (EG (s1,n1)=false)∧Hid (EG (s2,n2)=false))) (fun i _=>4-(intOf i).toNat)
 case atStart=>exact .inl ⟨rfl,hC1⟩
 rcases hrel with⟨rfl,hCx⟩|⟨rfl,hCx,H0⟩|⟨rfl,hCx,H0,H1⟩|⟨rfl,hCx,H0,H1,H2⟩
 ·clear hC1
  have hw:=Be (n:=2*n0) (by omega);by_cases p:3<2*n0
  case pos=>
   cases y:IC s0
   case true=>
    have hwin:EG (s0,n0)=true:=by unfold EG;rw[y];simp;exact p
    have HT2:=HT.out;simp only[List.find?,hwin] at HT2;have HR:=zh (show T=(s0,true) from HT2.symm);have HP:=zh (HPf.out s0);rw[y] at HP;clear HT2 hwin HT;have HB:=zh (HBw.out _ hCx);go_wp2_with fail;refine(HP.out _).mono ?_;rintro e w' ⟨rfl,rfl⟩;clear HP;go_wp2_with fail;go_ret2;exact⟨by rw[HR.out];rfl,HB.out⟩
   have Hw:=zh (show EG (s0,n0)=false by unfold EG;rw[y];simp);have HP:=zh (HPf.out s0);rw[y] at HP;go_wp2_with fail;refine(HP.out _).mono ?_;rintro e w' ⟨rfl,rfl⟩;go_wp2_with fail;go_roundw
   case rel=>exact .inr (.inl ⟨rfl,hCx,Hw⟩)
   case measure=>simp[intOf]
  have Hw:=zh (show EG (s0,n0)=false by unfold EG;rw[show decide (3<2*n0)=false by simpa using p];rfl);go_wp2_with fail;go_roundw
  case rel=>exact .inr (.inl ⟨rfl,hCx,Hw⟩)
  case measure=>simp[intOf]
 ·clear hC1
  have hw:=Be (n:=2*n1) (by omega);by_cases p:3<2*n1
  case pos=>
   cases y:IC s1
   case true=>
    have hwin:EG (s1,n1)=true:=by unfold EG;rw[y];simp;exact p
    have HT2:=HT.out;simp only[List.find?,H0.out,hwin] at HT2;have HR:=zh (show T=(s1,true) from HT2.symm);have HP:=zh (HPf.out s1);rw[y] at HP;clear HT2 hwin HT;have HB:=zh (HBw.out _ hCx);go_wp2_with fail;refine(HP.out _).mono ?_;rintro e w' ⟨rfl,rfl⟩;clear HP;go_wp2_with fail;go_ret2;exact⟨by rw[HR.out];rfl,HB.out⟩
   have Hw:=zh (show EG (s1,n1)=false by unfold EG;rw[y];simp);have HP:=zh (HPf.out s1);rw[y] at HP;go_wp2_with fail;refine(HP.out _).mono ?_;rintro e w' ⟨rfl,rfl⟩;go_wp2_with fail;go_roundw
   case rel=>exact .inr (.inr (.inl ⟨rfl,hCx,H0,Hw⟩))
   case measure=>simp[intOf]
  have Hw:=zh (show EG (s1,n1)=false by unfold EG;rw[show decide (3<2*n1)=false by simpa using p];rfl);go_wp2_with fail;go_roundw
  case rel=>exact .inr (.inr (.inl ⟨rfl,hCx,H0,Hw⟩))
  case measure=>simp[intOf]
 ·clear hC1
  have hw:=Be (n:=2*n2) (by omega);by_cases p:3<2*n2
  case pos=>
   cases y:IC s2
   case true=>
    have hwin:EG (s2,n2)=true:=by unfold EG;rw[y];simp;exact p
    have HT2:=HT.out;simp only[List.find?,H0.out,H1.out,hwin] at HT2;have HR:=zh (show T=(s2,true) from HT2.symm);have HP:=zh (HPf.out s2);rw[y] at HP;clear HT2 hwin HT;have HB:=zh (HBw.out _ hCx);go_wp2_with fail;refine(HP.out _).mono ?_;rintro e w' ⟨rfl,rfl⟩;clear HP;go_wp2_with fail;go_ret2;exact⟨by rw[HR.out];rfl,HB.out⟩
   have Hw:=zh (show EG (s2,n2)=false by unfold EG;rw[y];simp);have HP:=zh (HPf.out s2);rw[y] at HP;go_wp2_with fail;refine(HP.out _).mono ?_;rintro e w' ⟨rfl,rfl⟩;go_wp2_with fail;go_roundw
   case rel=>exact .inr (.inr (.inr (⟨rfl,hCx,H0,H1,Hw⟩)))
   case measure=>simp[intOf]
  have Hw:=zh (show EG (s2,n2)=false by unfold EG;rw[show decide (3<2*n2)=false by simpa using p];rfl);go_wp2_with fail;go_roundw
  case rel=>exact .inr (.inr (.inr (⟨rfl,hCx,H0,H1,Hw⟩)))
  case measure=>simp[intOf]
 ·clear hC1
  have HT2:=HT.out;simp only[List.find?,H0.out,H1.out,H2.out] at HT2;have HR:=zh (show T=(ByteArray.empty,false) from HT2.symm);have HB:=zh (HBw.out _ hCx);go_wp2_with fail;go_ret2;exact⟨by rw[HR.out];rfl,HB.out⟩
variable [Ghost]
theorem Zx {s:ByteArray}:((s.extract 0 3).toList==(⟨#[121,101,115]⟩:ByteArray).toList)=IC s:=by
 rw[BL];unfold IC;have e1:(s.extract 0 3).data.toList=s.data.toList.take 3:=by rw[ByteArray.data_extract,Array.toList_extract];simp
 rw[Bool.eq_iff_iff,decide_eq_true_iff,List.isPrefixOf_iff_prefix,List.prefix_iff_eq_take];constructor
 ·intro h;rw[h] at e1;exact e1
 ·intro h
  have h2:(s.extract 0 3).data.toList=[121,101,115]:=by rw[e1];exact h.symm
  have h3:(s.extract 0 3).data=#[121,101,115]:=Array.toList_inj.1 (by rw[h2]);cases he:s.extract 0 3 with
  |mk d=>rw[he] at h3;simp at h3;rw[h3]
theorem Yx {s:ByteArray}:((s.extract 0 3).toList==[121,101,115])=IC s:=by
 have:=Zx (s:=s);rw[show(⟨#[121,101,115]⟩:ByteArray).toList=[121,101,115] by decide+kernel] at this;exact this
theorem Wi {s:ByteArray} (h:¬3≤s.size):IC s=false:=by
 cases y:IC s
 ·rfl
 ·exact absurd (Yy y) h
def Jd (l:List ByteArray) (s:ByteArray) (k:Nat):Nat:=MR (l.take k) s
theorem Xb {l:List ByteArray} {s:ByteArray} {k:Nat} (h:k<l.length):Jd l s (k+1)=Jd l s k+(if(sa l k).toList==s.toList then 1 else 0):=by
 unfold Jd MR;rw[List.take_succ_eq_append_getElem h,List.countP_append,Oz h,BL];simp[List.countP_cons]
theorem YN (l:List ByteArray) (s:ByteArray) (k:Nat):Jd l s k≤k:=by
 unfold Jd MR;exact Nat.le_trans List.countP_le_length (by rw[List.length_take];omega)
theorem Pa {l:List ByteArray} (h:∀j,j<l.length→FY l (sa l j)=false):l.find? (FY l)=none:=by
 refine List.find?_eq_none.2 fun x hx=>?_
 obtain⟨j,hj,rfl⟩:=List.getElem_of_mem hx;have:=h j hj;rw[Oz hj] at this;rw[this];simp
theorem Qq {l:List ByteArray} {i:Nat} (hi:i<l.length) (h:∀j,j<i→FY l (sa l j)=false) (hh:FY l (sa l i)=true):l.find? (FY l)=some (sa l i):=by
 rw[Oz hi] at hh⊢;refine List.find?_eq_some_iff_getElem.2 ⟨hh,i,hi,rfl,fun j hj=>?_⟩;have:=h j hj;rw[Oz (by omega)] at this;rw[this];rfl
theorem SD (l:List ByteArray) (v:Value) (S:Nat→Prop) (w:World) (h:De S w v l):
  Calls Tryz.prog 57 #[v] w fun e w'=>e=.returned (.tuple #[.string (CZ l).1,.bool (CZ l).2])∧Below w.heap.size w w':=by
 obtain⟨a,n,cap,HN,rfl,h1,h2,h3,h4⟩:=h.open;have HE:=zh (fun i (hi:i<l.length)=>h.each hi);clear h;by_cases hn:n=3
 case neg=>
  have ht:CZ l=(ByteArray.empty,false):=by unfold CZ;rw[if_pos (by rw[←HN.out];exact hn)]
  rw[ht];have hq:((n:Int) !=3)=true:=by simp;omega
  go_enter Tryz.func57, Tryz.ntmps57
  go_wp2_with fail;go_ret2;exact⟨rfl,Below.refl _ _⟩
 obtain rfl:=hn;obtain⟨b,off,rfl,hS,k0⟩:=h4 (by omega);clear h4 h1 h2 h3;have ht:CZ l=told (l.find? (FY l)):=by unfold CZ;rw[if_neg (by rw[←HN.out];simp)]
 rw[ht];clear ht;generalize hT:told (l.find? (FY l))=T;have HT:=zh hT;clear hT;obtain⟨C,hC,hC1,_⟩:=Av w;have hCb:=hC.below;have hCg:=BI hC;have HBw:=zh (fun x (hx:In C x)=>hCb _ hx);have K0:=zh (fun i x (hi:i<3) (hx:In C x)=>k0 i x hi (hCb _ hx));clear k0 hCb hC hS
 go_enter Tryz.func57, Tryz.ntmps57
 go_wp2_with fail;go_loopw [4] (fun i wr=>∃k:Nat,k≤3∧i=.int .i64 k∧Hid (∀j,j<k→FY l (sa l j)=false)∧In C wr) (fun i _=>3-(intOf i).toNat)
 case atStart=>exact⟨0,by omega,rfl,fun j hj=>absurd hj (by omega),hC1⟩
 obtain⟨i,hi,rfl,HM,hCw⟩:=hrel;clear hC1;by_cases hlt:i<3
 case neg=>
  have HB:=zh (HBw.out _ hCw);have HR:=zh (show T=(ByteArray.empty,false) from by
   have h9:=HM.out;rw[show i=l.length by have:=HN.out;omega] at h9;have h10:=HT.out;rw[Pa h9] at h10;exact h10.symm)
  clear HM HT;have hi3:(i:Int)=3:=by omega
  rw[hi3];go_wp2_with fail;go_ret2;exact⟨by rw[HR.out];rfl,HB.out⟩
 have hii1:=zk i;have hii2:(i:Int)<3:=by omega
 have yi:=fun x (hx:In C x)=>K0.out i x hlt hx
 have Hsz:=zh (HE.out i (by have:=HN.out;omega));have Hcn:=zh (fun k (hk:k<3)=>Xb (l:=l) (s:=sa l i) (k:=k) (by have:=HN.out;omega));have Hle:=zh (YN l (sa l i));have Hhit:=zh (fun(hh:FY l (sa l i)=true)=>show T=(sa l i,true) from by
  have h10:=HT.out;rw[Qq (by have:=HN.out;omega) HM.out hh] at h10;exact h10.symm)
 have Hnxt:=zh (fun(hh:FY l (sa l i)=false)=>show∀j,j<i+1→FY l (sa l j)=false from fun j hj=>by
  by_cases hji:j<i
  ·exact HM.out j hji
  ·obtain rfl:j=i:=by omega
   exact hh)
 have Hun:=zh (show FY l (sa l i)=(decide (2≤Jd l (sa l i) 3) && IC (sa l i)) from by
  unfold FY Jd;rw[List.take_of_length_le (by rw[←HN.out];omega)])
 clear HM HT HE;generalize sa l i=s at*;generalize FY l s=hb at*;go_wp2_with fail;go_loopw [5,6] (fun c k wx=>∃q:Nat,q≤3∧k=.int .i64 q∧c=.int .i64 (Jd l s q)∧In C wx) (fun _ k _=>3-(intOf k).toNat)
 case atStart=>exact⟨0,by omega,rfl,by unfold Jd MR;rfl,hCw⟩
 obtain⟨q,hq,rfl,rfl,hCx⟩:=hrel;clear hCw;by_cases hqn:q<3
 case pos=>
  have yq:=fun x (hx:In C x)=>K0.out q x hqn hx
  have hq1:=zk q;have hq2:(q:Int)<3:=by omega
  have Hn1:=zh (Hcn.out q hqn);have hl1:=Hle.out q;generalize sa l q=t at*;cases ht:(t.toList==s.toList)
  all_goals
   rw[ht] at Hn1;go_wp2_with fail;refine wp_region_quiet_below (by kernel_rfl) (by kernel_rfl) ?_
   repeat (first|go_big_quiet_skip|quiet_step (fail))
   refine wpQuiet_nil ?_;intro _ hw';obtain⟨⟨dq,osq⟩,hw''⟩:=hw';subst hw'';have hC2:=hCg _ dq osq hCx;generalize Go.Sort.grow (redrawn _ dq) osq=x3 at*;clear hCx yi yq
  ·go_wp2_with fail
   go_roundw
   case rel=>exact⟨q+1,by omega,by go_num,by rw[Hn1.out];rfl,hC2⟩
   case measure=>simp[intOf];omega
  ·generalize hz:Jd l s q=z at*
   have hwz:=Be (n:=(z:Int)+1) (by omega);go_wp2_with fail;go_roundw
   case rel=>exact⟨q+1,by omega,by go_num,by rw[Hn1.out];rfl,hC2⟩
   case measure=>simp[intOf];omega
 obtain hq3:q=3:=by omega
 have hqi:(q:Int)=3:=by omega
 have hl1:=Hle.out q;rw[hqi];rw[hq3] at hl1⊢;clear hq3 hqi hqn hq;generalize Jd l s 3=z at*;by_cases hz:2≤z
 case neg=>
  have hz2:¬(2:Int)≤(z:Int):=by omega
  have hz3:decide ((2:Int)≤(z:Int))=false:=by simpa using hz2
  have Hm:=zh (Hnxt.out (by rw[Hun.out];simp[hz]));go_wp2_with fail;go_roundw
  case rel=>exact⟨i+1,by omega,by go_num,Hm,hCx⟩
  case measure=>simp[intOf];omega
 have hz2:(2:Int)≤(z:Int):=by omega
 have hz3:decide ((2:Int)≤(z:Int))=true:=by simpa using hz2
 by_cases h3:3≤s.size
 case neg=>
  have y:=Wi h3;have h32:¬(3:Int)≤(s.size:Int):=by omega
  have h33:decide ((3:Int)≤(s.size:Int))=false:=by simpa using h32
  have Hm:=zh (Hnxt.out (by rw[Hun.out];simp[y]));go_wp2_with fail;go_roundw
  case rel=>exact⟨i+1,by omega,by go_num,Hm,hCx⟩
  case measure=>simp[intOf];omega
 have h32:(3:Int)≤(s.size:Int):=by omega
 have h33:decide ((3:Int)≤(s.size:Int))=true:=by simpa using h32
 have hcut:=Yx (s:=s);cases y:IC s
 all_goals rw[y] at hcut
 case false=>
  have Hm:=zh (Hnxt.out (by rw[Hun.out];simp[y]));go_wp2_with fail;go_roundw
  case rel=>exact⟨i+1,by omega,by go_num,Hm,hCx⟩
  case measure=>simp[intOf];omega
 have Hh:=zh (Hhit.out (by rw[Hun.out];simp[hz,y]));have HB:=zh (HBw.out _ hCx);go_wp2_with fail;go_ret2;exact⟨by rw[Hh.out];rfl,HB.out⟩
variable [Ghost]
def Qf (w:World):Prop:=Lib.TabIs Tryz.prog w "internal/strconv.uint64pow10" .u64 Lib.pow10Tab
theorem Qf.below {w w':World} (h:Qf w) (hb:Below w.heap.size w w'):Qf w':=Lib.tabBelow_of_tabIs h w' hb
theorem RP (n:Int) (h0:0≤n) (h1:n≤999) (w:World) (h:Qf w):Calls Tryz.prog 50 #[.int .i64 n] w fun e w'=>e=.returned (.string (Bl n))∧Below w.heap.size w w':=by
 refine(Tryz.strconv_Itoa n (by omega) (by omega) w h).mono ?_;rintro e w' ⟨rfl,k,os,rfl⟩;have hi:Lib.itoa n=Lib.decDigits n.toNat:=by unfold Lib.itoa;rw[if_neg (by omega)]
 rw[hi];exact⟨rfl,below_regrown w (w.drewN k).drawn os⟩
theorem XB (n:Int) (h:CP n) (w:World):Calls Tryz.prog 50 #[.int .i64 n] w fun e w'=>e=.returned (.string (Bl n))∧Below w.heap.size w w':=by
 obtain⟨k,rfl⟩:∃k:Nat,n=(k:Int):=⟨n.toNat,by have:=h.1;omega⟩;refine(Tryz.strconv_Itoa_small k (by have:=h.2;omega) w).mono ?_;rintro e w' ⟨rfl,rfl⟩;exact⟨rfl,Below.refl _ _⟩
theorem En {n:Int} (h0:0≤n) (h1:n≤999):(Bl n).size≤20:=by
 unfold Bl;show(Lib.decDigits n.toNat).toArray.size≤20
 have:(Lib.decDigits n.toNat).length≤20:=by
  rw[Lib.decDigits_length];unfold Lib.nDigits;split
  ·omega
  ·unfold Lib.nDigits
   split
   ·omega
   ·unfold Lib.nDigits
    split
    ·omega
    ·omega
 simpa using this
theorem OL {l:List Mv} (h:EJ l):(Fh l).size≤1000:=by
 have:=Mh h l.length (Nat.le_refl _);have h4:=h.many;show(Cg l l.length).1.size≤1000
 omega
theorem SI (r:Am) (p:BM) (sv rv ov uv ov2 uv2:Value) (S S1 S2 S3:Nat→Prop) (w:World) (hs:Ai S w sv r.store) (hr:AB S1 w rv r.refs) (ho:Ai S2 w ov p.objects) (hu:AJ S3 w uv p.updates)
  (h2:(∃a n c,ov2=.slice a n c)∧∃a n c,uv2=.slice a n c) (hp:As p=0) (g0:0≤r.gen) (g1:r.gen≤999) (ht:Qf w):
  Calls Tryz.prog 124 #[.agg #[sv,rv,.int .i64 r.gen,.int .i64 r.phase,ov2,uv2,.bool r.pend.force],.agg #[ov,uv,.bool p.force]] w
   fun e w'=>e=.returned (.string (CC r p))∧Below w.heap.size w w':=by
 have Hr:=zh (fun x (hx:Below w.heap.size w x)=>Sm r p _ _ _ _ _ _ _ _ _ _ x (hs.below hx) (hr.below hx) (ho.below hx) (hu.below hx) (Dv hp).2.2 h2);have hok:=Jp.1 (Dv hp).2.2;have HI:=zh (fun x (hx:Below w.heap.size w x)=>RP r.gen g0 g1 x (ht.below hx));have HF:=zh (fun(hd:CP (Bv r p)) x=>XB _ hd x);have HL:=zh (fun x (hx:Below w.heap.size w x)=>XF p.updates _ _ x (hu.below hx) hok);have Hdg:=zh (Ig r p);have n1:(Bl r.gen).size≤20:=En g0 g1;have n2:(Bl (Bv r p)).size≤20:=En (Ig r p).1 (by have:=(Ig r p).2;omega);have n3:(Fh p.updates).size≤1000:=OL hok;clear hok;obtain⟨sa,sc,rfl⟩:=hs.vshape;obtain⟨⟨ra,rc⟩,rfl⟩:=hr.shape;obtain⟨oa,oc,rfl⟩:=ho.vshape;obtain⟨⟨ua,uc⟩,rfl⟩:=hu.shape;obtain⟨⟨oa2,on2,oc2,rfl⟩,⟨ua2,un2,uc2,rfl⟩⟩:=h2;obtain⟨R,hR,hR1,hy,hz⟩:=JD w #[.slice sa r.store.length sc,.slice ra r.refs.length rc,.int .i64 r.gen,.int .i64 r.phase,.slice oa2 on2 oc2,.slice ua2 un2 uc2,.bool r.pend.force] #[.slice oa p.objects.length oc,.slice ua p.updates.length uc,.bool p.force] 34 28;have y0:=hy 0 _ rfl;have y1:=hy 1 _ rfl;have y2:=hy 2 _ rfl;have y3:=hy 3 _ rfl;have y4:=hy 4 _ rfl;have y5:=hy 5 _ rfl;have y6:=hy 6 _ rfl;have z0:=hz 0 _ rfl;have z1:=hz 1 _ rfl;have z2:=hz 2 _ rfl;have hRb:=hR.below;have hRn:=hR.next
 have hRg:=BI hR;clear hy hz hs hr ho hu hp;have a0:=y0 _ hR1;have a1:=y1 _ hR1;have a2:=y2 _ hR1;have a3:=y3 _ hR1;have a4:=y4 _ hR1;have a5:=y5 _ hR1;have a6:=y6 _ hR1;have b0:=z0 _ hR1;have b1:=z1 _ hR1;have b2:=z2 _ hR1;have HV:=zh (show CC r p=if Bv r p≠0 then aP++Bl (Bv r p) else OP++Bl r.gen++YA++Fh p.updates from rfl);by_cases he:Bv r p=0
 case neg=>
  have hq:(Bv r p !=0)=true:=by simpa using he
  rw[HV.out,if_pos he];have HF2:=zh (HF.out Hdg.out);have m1:¬9223372036854775807<3+(Bl (Bv r p)).size:=by omega
  clear HV HF HI HL Hdg he;generalize Bl (Bv r p)=ds at*
  go_enter Tryz.func124, Tryz.ntmps124
  go_wp2_with fail;refine(Hr.out _ (hRb _ hR1)).mono ?_;rintro e w4 ⟨v4,u4,rfl,hv4,hu4,hb4⟩;obtain⟨a4',c4,rfl⟩:=hv4.vshape;obtain⟨⟨p4,d4⟩,rfl⟩:=hu4.shape;have hR2:=hRn _ _ hR1 hb4;clear hv4 hu4 hb4;go_wp2_with fail;refine(HF2.out _).mono ?_;rintro e w5 ⟨rfl,hb5⟩;have hR5:=hRn _ _ hR2 hb5;have HB:=zh (hRb _ hR5);go_wp2_with fail;go_ret;exact⟨rfl,HB.out⟩
 rw[HV.out,if_neg (by simpa using he)];rw[he] at Hr;have HL2:=zh HL.out;have m1:¬9223372036854775807<4+(Bl r.gen).size:=by omega
 have m2:¬9223372036854775807<4+(Bl r.gen).size+1:=by omega
 have m3:¬9223372036854775807<4+(Bl r.gen).size+1+(Fh p.updates).size:=by omega
 clear HV HF Hdg HL he;generalize Bl r.gen=ds at*;generalize Fh p.updates=tx at*
 go_enter Tryz.func124, Tryz.ntmps124
 go_wp2_with fail;refine(Hr.out _ (hRb _ hR1)).mono ?_;rintro e w4 ⟨v4,u4,rfl,hv4,hu4,hb4⟩;obtain⟨a4',c4,rfl⟩:=hv4.vshape;obtain⟨⟨p4,d4⟩,rfl⟩:=hu4.shape;have hR2:=hRn _ _ hR1 hb4;clear hv4 hu4 hb4 a0 a1 a2 a3 a4 a5 a6 b0 b1 b2;go_wp2_with fail;refine wp_region_quiet_below (by kernel_rfl) (by kernel_rfl) ?_
 repeat (first|go_big_quiet_skip|quiet_step (first|exact Calls.regrown_of (HL2.out _ (hRb _ (hRg _ _ _ hR2)))|exact Calls.regrown_of (HI.out _ (hRb _ (hRg _ _ _ hR2)))))
 refine wpQuiet_nil ?_;intro _ hw';obtain⟨⟨dq,osq⟩,hw''⟩:=hw';subst hw'';have hR5:=hRg _ dq osq hR2;generalize Go.Sort.grow (redrawn _ dq) osq=x5 at*;have HB:=zh (hRb _ hR5);go_wp2_with fail;go_ret;exact⟨rfl,HB.out⟩
theorem Ud (r:Am) (p:BM) (sv rv ov uv ov2 uv2:Value) (S S1 S2 S3:Nat→Prop) (w:World) (hs:Ai S w sv r.store) (hr:AB S1 w rv r.refs) (ho:Ai S2 w ov p.objects) (hu:AJ S3 w uv p.updates)
  (h2:(∃a n c,ov2=.slice a n c)∧∃a n c,uv2=.slice a n c) (hp:As p=0) (g0:0≤r.gen) (g1:r.gen≤999):
  Calls Tryz.prog 56 #[.agg #[sv,rv,.int .i64 r.gen,.int .i64 r.phase,ov2,uv2,.bool r.pend.force],.agg #[ov,uv,.bool p.force]] w
   fun e w'=>e=.returned (.string (CC r p))∧Below w.heap.size w w':=by
 have Hr:=zh (fun x (hx:Below w.heap.size w x)=>Wc r p _ _ _ _ _ _ _ _ _ _ x (hs.below hx) (hr.below hx) (ho.below hx) (hu.below hx) h2);have hok:=Jp.1 (Dv hp).2.2;have HI:=zh (fun x (hx:Below w.heap.size w x)=>FI r.gen g0 (by omega) x);have HF:=zh (fun(hd:CP (Bv r p)) x=>FI _ hd.1 (by have:=hd.2;omega) x);have HL:=zh (fun x (hx:Below w.heap.size w x)=>TY p.updates _ _ x (hu.below hx) hok);have Hdg:=zh (Ig r p);have n1:(Bl r.gen).size≤20:=En g0 g1;have n2:(Bl (Bv r p)).size≤20:=En (Ig r p).1 (by have:=(Ig r p).2;omega);have n3:(Fh p.updates).size≤1000:=OL hok;clear hok;obtain⟨sa,sc,rfl⟩:=hs.vshape;obtain⟨⟨ra,rc⟩,rfl⟩:=hr.shape;obtain⟨oa,oc,rfl⟩:=ho.vshape;obtain⟨⟨ua,uc⟩,rfl⟩:=hu.shape;obtain⟨⟨oa2,on2,oc2,rfl⟩,⟨ua2,un2,uc2,rfl⟩⟩:=h2;obtain⟨R,hR,hR1,hy,hz⟩:=JD w #[.slice sa r.store.length sc,.slice ra r.refs.length rc,.int .i64 r.gen,.int .i64 r.phase,.slice oa2 on2 oc2,.slice ua2 un2 uc2,.bool r.pend.force] #[.slice oa p.objects.length oc,.slice ua p.updates.length uc,.bool p.force] 34 28;have y0:=hy 0 _ rfl;have y1:=hy 1 _ rfl;have y2:=hy 2 _ rfl;have y3:=hy 3 _ rfl;have y4:=hy 4 _ rfl;have y5:=hy 5 _ rfl;have y6:=hy 6 _ rfl;have z0:=hz 0 _ rfl;have z1:=hz 1 _ rfl;have z2:=hz 2 _ rfl;have hRb:=hR.below;have hRn:=hR.next
 have hRg:=BI hR;clear hy hz hs hr ho hu hp;have a0:=y0 _ hR1;have a1:=y1 _ hR1;have a2:=y2 _ hR1;have a3:=y3 _ hR1;have a4:=y4 _ hR1;have a5:=y5 _ hR1;have a6:=y6 _ hR1;have b0:=z0 _ hR1;have b1:=z1 _ hR1;have b2:=z2 _ hR1;have HV:=zh (show CC r p=if Bv r p≠0 then aP++Bl (Bv r p) else OP++Bl r.gen++YA++Fh p.updates from rfl);by_cases he:Bv r p=0
 case neg=>
  have hq:(Bv r p !=0)=true:=by simpa using he
  rw[HV.out,if_pos he];have HF2:=zh (HF.out Hdg.out);have m1:¬9223372036854775807<3+(Bl (Bv r p)).size:=by omega
  clear HV HF HI HL Hdg he;generalize Bl (Bv r p)=ds at*
  go_enter Tryz.func56, Tryz.ntmps56
  go_wp2_with fail;refine(Hr.out _ (hRb _ hR1)).mono ?_;rintro e w4 ⟨v4,u4,rfl,hv4,hu4,hb4⟩;obtain⟨a4',c4,rfl⟩:=hv4.vshape;obtain⟨⟨p4,d4⟩,rfl⟩:=hu4.shape;have hR2:=hRn _ _ hR1 hb4;clear hv4 hu4 hb4;go_wp2_with fail;refine(HF2.out _).mono ?_;rintro e w5 ⟨rfl,rfl⟩;have hR5:=hR2;have HB:=zh (hRb _ hR5);go_wp2_with fail;go_ret;exact⟨rfl,HB.out⟩
 rw[HV.out,if_neg (by simpa using he)];rw[he] at Hr;have HL2:=zh HL.out;have HI2:=zh (fun x=>(FI r.gen g0 (by omega) x).mono (R':=fun e w'=>e=.returned (.string (Bl r.gen))∧Below x.heap.size x w') (by rintro e w' ⟨rfl,rfl⟩;exact⟨rfl,Below.refl _ _⟩));have m1:¬9223372036854775807<4+(Bl r.gen).size:=by omega
 have m2:¬9223372036854775807<4+(Bl r.gen).size+1:=by omega
 have m3:¬9223372036854775807<4+(Bl r.gen).size+1+(Fh p.updates).size:=by omega
 clear HV HF Hdg HL he;generalize Bl r.gen=ds at*;generalize Fh p.updates=tx at*
 go_enter Tryz.func56, Tryz.ntmps56
 go_wp2_with fail;refine(Hr.out _ (hRb _ hR1)).mono ?_;rintro e w4 ⟨v4,u4,rfl,hv4,hu4,hb4⟩;obtain⟨a4',c4,rfl⟩:=hv4.vshape;obtain⟨⟨p4,d4⟩,rfl⟩:=hu4.shape;have hR2:=hRn _ _ hR1 hb4;clear hv4 hu4 hb4 a0 a1 a2 a3 a4 a5 a6 b0 b1 b2;go_wp2_with fail;refine wp_region_quiet_below (by kernel_rfl) (by kernel_rfl) ?_
 repeat (first|go_big_quiet_skip|quiet_step (first|exact Calls.regrown_of (HL2.out _ (hRb _ (hRg _ _ _ hR2)))|exact Calls.regrown_of (HI2.out _)))
 refine wpQuiet_nil ?_;intro _ hw';obtain⟨⟨dq,osq⟩,hw''⟩:=hw';subst hw'';have hR5:=hRg _ dq osq hR2;generalize Go.Sort.grow (redrawn _ dq) osq=x5 at*;have HB:=zh (hRb _ hR5);go_wp2_with fail;go_ret;exact⟨rfl,HB.out⟩
variable [Ghost]
end Go.Proofs.YtgbnlmplkealdaaGreatDoor
