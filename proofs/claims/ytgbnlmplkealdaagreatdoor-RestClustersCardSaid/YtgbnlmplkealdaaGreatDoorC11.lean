
/- AddA: Join, Each, WithP, With, Add, Find. -/
import Derived.Test.YtgbnlmplkealdaaGreatDoorC7
set_option linter.all false
set_option maxHeartbeats 4000000
set_option maxRecDepth 100000
namespace Go.Proofs.YtgbnlmplkealdaaGreatDoor
open Go.RowKit
variable [Ghost]
def GO (l:List Obj) (o:Obj):Int:=if CO l o.id=true∧BG (obj l (lo l o.id)) o=false then 6 else 0
def Fq (l:List Obj) (o:Obj):List Obj:=if CO l o.id=true then l else Ku l (lo l o.id) o
def GX (B J:Nat) (w:World) (l:List Obj):Prop:=
 ∃v S,Dd S B w v l∧(∀b,S b→b≠J∧B≤b)∧v.ownBlock≠some J∧w.heap[J]?=some (.cells #[v] 143 (0,0))
theorem GX.below {B J:Nat} {w w':World} {l:List Obj} (h:GX B J w l) (hb:Below w.heap.size w w'):GX B J w' l:=by
 obtain⟨v,S,h1,h2,h3,h4⟩:=h;exact⟨v,S,h1.below hb,h2,h3,(hb.block _ (lt_of_block h4)).trans h4⟩
theorem KY {B J:Nat} {w x0 xo w9:World} {v v':Value} {m:List Obj} {S:Nat→Prop} (hB:B≤J) (hJw:J<w.heap.size) (hSJ:∀b,S b→b≠J∧B≤b) (hvJ:v.ownBlock≠some J) (hcJ:w.heap[J]?=some (.cells #[v] 143 (0,0)))
  (hb0:Below w.heap.size w x0) (hb:Below w.heap.size w xo) (hvB:∀g,v.ownBlock=some g→B≤g) (hG:Dd (fun b=>S b∨(x0.heap.size≤b∧b<xo.heap.size)) B w9 v' m) (hu:AK (fun b=>v.ownBlock=some b) xo w9) (hat:v'.ownBlock=v.ownBlock∨∃k,v'.ownBlock=some k∧xo.heap.size≤k):
  GX B J (w9.setCell ⟨J,0,none⟩ v') m∧Below B w (w9.setCell ⟨J,0,none⟩ v'):=by
 have h0:=hb0.size;have h1:=hb.size;have hJ9:w9.heap[J]?=some (.cells #[v] 143 (0,0)):=hu.blk ((hb.block _ hJw).trans hcJ) hvJ;have hu2:=su J 0 w9 v';have hv':v'.ownBlock≠some J:=by
  rcases hat with h|⟨k,h,hk⟩
  ·rw[h];exact hvJ
  ·rw[h];intro e;cases e;omega
 refine⟨⟨v',_,hG.upd hu2 (fun b hb' e=>?_) (fun g hg e=>hv' (by rw[hg,e])),fun b hb'=>?_,hv',Ah (j:=0) hJ9 v'⟩,?_⟩
 ·rcases hb' with h|h
  ·exact(hSJ b h).1 e
  ·omega
 ·rcases hb' with h|h
  ·exact hSJ b h
  ·exact⟨by omega,by omega⟩
 ·exact(hb.mono (by omega)).trans ((hu.below (by omega) hvB).trans (hu2.below (B:=B) (by have:=hu.size;omega) (fun b e=>by omega)))
theorem XC {B J:Nat} {l:List Obj} {w:World} (hJ:GX B J w l) (hr:AD l) (o:Obj) (lv:Value) (S2:Nat→Prop) (ho:Bu S2 w o lv) (hl:l.length≤900) (hB:B≤J):
  Calls Tryz.prog 109 #[.pointer (some ⟨J,0,none⟩),.agg #[.int .i64 o.id,.int .i64 o.kind,lv,.string o.text]] w
   fun e w'=>e=.returned (.int .i64 (GO l o))∧GX B J w' (Fq l o)∧Below B w w':=by
 have hJ':=hJ;obtain⟨v,S,hG,hSJ,hvJ,hcJ⟩:=hJ;obtain⟨va,vc,rfl⟩:=hG.gath.shape;obtain⟨⟨lp,lc⟩,rfl⟩:=ho.1.shape;have hJw:=lt_of_block hcJ;have hst:=hG.gath.store (by omega);obtain⟨Q,hQ,hQ1,y0,y1,y2,y3⟩:=Ev w (.int .i64 o.id) (.int .i64 o.kind) (.slice lp o.links.length lc) (.string o.text) 96;have hQb:=hQ.below;have hQn:=hQ.next
 have hQg:=BI hQ;have cJ:=fun x (hx:In Q x)=>Aa (w:=x) (j:=0) ((hQb x hx).block _ hJw|>.trans hcJ) rfl
 have Hat:=zh (fun x (hx:In Q x)=>LK l _ _ o.id x (hst.below (hQb _ hx)) hr);have hlo:=PM l o.id;cases hat:CO l o.id
 ·have HjL:=zh (show Fq l o=Ku l (lo l o.id) o by unfold Fq;rw[if_neg (by simp[hat])])
  have HjE:=zh (show GO l o=0 by unfold GO;simp[hat]);rw[HjL.out,HjE.out];rw[hat] at Hat;generalize lo l o.id=k at*;have Ho:=zh ho;have HG:=zh hG;have HSJ:=zh hSJ;have HcJ:=zh hcJ;clear hst hJ' hr ho hG hSJ hcJ
  go_enter Tryz.func109, Tryz.ntmps109
  go_wp2_with fail;refine wp_region_quiet_below (by kernel_rfl) (by kernel_rfl) ?_
  repeat (quiet_step (exact Calls.regrown_of (Hat.out _ (hQg _ _ _ hQ1))))
  refine wpQuiet_nil ?_;intro _ hw';obtain⟨⟨dq,osq⟩,hw''⟩:=hw';subst hw'';have hQ2:=hQg _ dq osq hQ1;generalize Go.Sort.grow (redrawn _ dq) osq=w5 at*;go_wp2_with fail;have hQd:=hQ.drew _ hQ2;refine Du (by kernel_rfl) rfl ?_;generalize w5.drew=x0 at*;refine tk0 0 (.pointer (some ⟨J,0,none⟩)) (fun w=>?_) ?_
  ·go_simp
  simp only[tkS];refine tk0 1 (.pointer (some ⟨J,0,none⟩)) (fun w=>?_) ?_
  ·go_simp
  simp only[tkS];refine tk0 2 (.pointer (some ⟨J,0,none⟩)) (fun w=>?_) ?_
  ·go_simp
  simp only[tkS];refine tk0 3 (.pointer (some ⟨J,0,none⟩)) (fun w=>?_) ?_
  ·go_simp
  simp only[tkS];refine tk0 5 (.int .i64 (k:Int)) (fun w=>?_) ?_
  ·go_simp
  simp only[tkS];have HQn:=zh hQn;have HQa:=zh hQ.alloc;have hQ0:=hQd;clear hQd;have z0:=y0 _ hQ0;have z1:=y1 _ hQ0;have z2:=y2 _ hQ0;have z3:=y3 _ hQ0;have zJ:=cJ _ hQ0;have hown:=QF o _ S2 x0 (Ho.out.below (hQb _ hQ0));refine ET 4 6 (by kernel_rfl) (Eo rfl (by rfl) (fun K hK=>?_)) (Eo rfl (by rfl) (fun K hK=>?_))
  ·go_wp2_with fail
   refine tk1 6 (fun K hK=>?_);go_wp2_with fail;refine tk1 7 (fun K hK=>?_);go_wp2_with fail;refine hown.mono ?_;rintro e xo ⟨lo,rfl,hoo,hbo⟩;obtain⟨⟨lop,loc⟩,rfl⟩:=hoo.1.shape;have hQo:=HQn.out _ _ hQ0 hbo;have zJo:=cJ _ hQo;have zJo2:=cJ _ (HQa.out _ (.cells #[.int .i64 o.id,.int .i64 o.kind,.slice lop o.links.length loc,.string o.text] 96) hQo);go_wp2_with fail;refine tk1 8 (fun K hK=>?_);go_wp2_with fail;have hin:=Gc (HG.out.below (hQb _ hQo)) hoo.lt (fun b hb=>⟨hb.2,fun e=>by have h1:=(HG.out.gath.block e).2;have h2:=(hQb _ hQ0).size;omega⟩) (show l.length≤1000 by omega) (show B≤xo.heap.size by have:=(hQb _ hQo).size;omega) hlo rfl;refine tk1 9 (fun K hK=>?_);go_wp2_with fail;refine hin.mono ?_;rintro e w9 ⟨v',rfl,hG9,hu9,hat9⟩;have Hend:=zh (KY hB hJw HSJ.out hvJ HcJ.out (hQb _ hQ0) (hQb _ hQo) (fun g hg=>(HG.out.gath.block hg).1) hG9 hu9 hat9);have hJ9:w9.heap[J]?=some (.cells #[_] 143 (0,0)):=hu9.blk (((hQb _ hQo).block _ hJw).trans HcJ.out) hvJ;have cJ9:=Aa (j:=0) hJ9 rfl;have fJ9:=Ad (j:=0) hJ9;obtain⟨⟨va9,vc9⟩,hv9⟩:∃p:Option Addr×Nat,v'=.slice p.1 (Ku l k o).length p.2:=by
    obtain⟨a,c,h⟩:=hG9.gath.shape;exact⟨(a,c),h⟩
   subst hv9;clear hin hG9 hu9 hat9 hJ9;go_wp2_with fail;refine tk1 10 (fun K hK=>?_);go_wp2_with fail;refine tk1 11 (fun K hK=>?_);go_wp2_with fail;refine tk1 12 (fun K hK=>?_);go_wp2_with fail;refine BN (by kernel_rfl) ?_;go_wp2_with fail;go_ret;exact⟨rfl,Hend.out⟩
  ·go_wp2_with fail
   refine ET 4 7 (by kernel_rfl) (Eo rfl (by rfl) (fun K hK=>?_)) (Eo rfl (by rfl) (fun K hK=>?_))
   ·go_wp2_with fail
    refine tk1 7 (fun K hK=>?_);go_wp2_with fail;refine hown.mono ?_;rintro e xo ⟨lo,rfl,hoo,hbo⟩;obtain⟨⟨lop,loc⟩,rfl⟩:=hoo.1.shape;have hQo:=HQn.out _ _ hQ0 hbo;have zJo:=cJ _ hQo;have zJo2:=cJ _ (HQa.out _ (.cells #[.int .i64 o.id,.int .i64 o.kind,.slice lop o.links.length loc,.string o.text] 96) hQo);go_wp2_with fail;refine tk1 8 (fun K hK=>?_);go_wp2_with fail;have hin:=Gc (HG.out.below (hQb _ hQo)) hoo.lt (fun b hb=>⟨hb.2,fun e=>by have h1:=(HG.out.gath.block e).2;have h2:=(hQb _ hQ0).size;omega⟩) (show l.length≤1000 by omega) (show B≤xo.heap.size by have:=(hQb _ hQo).size;omega) hlo rfl;refine tk1 9 (fun K hK=>?_);go_wp2_with fail;refine hin.mono ?_;rintro e w9 ⟨v',rfl,hG9,hu9,hat9⟩;have Hend:=zh (KY hB hJw HSJ.out hvJ HcJ.out (hQb _ hQ0) (hQb _ hQo) (fun g hg=>(HG.out.gath.block hg).1) hG9 hu9 hat9);have hJ9:w9.heap[J]?=some (.cells #[_] 143 (0,0)):=hu9.blk (((hQb _ hQo).block _ hJw).trans HcJ.out) hvJ;have cJ9:=Aa (j:=0) hJ9 rfl;have fJ9:=Ad (j:=0) hJ9;obtain⟨⟨va9,vc9⟩,hv9⟩:∃p:Option Addr×Nat,v'=.slice p.1 (Ku l k o).length p.2:=by
     obtain⟨a,c,h⟩:=hG9.gath.shape;exact⟨(a,c),h⟩
    subst hv9;clear hin hG9 hu9 hat9 hJ9;go_wp2_with fail;refine tk1 10 (fun K hK=>?_);go_wp2_with fail;refine tk1 11 (fun K hK=>?_);go_wp2_with fail;refine tk1 12 (fun K hK=>?_);go_wp2_with fail;refine BN (by kernel_rfl) ?_;go_wp2_with fail;go_ret;exact⟨rfl,Hend.out⟩
   ·go_wp2_with fail
    refine hown.mono ?_;rintro e xo ⟨lo,rfl,hoo,hbo⟩;obtain⟨⟨lop,loc⟩,rfl⟩:=hoo.1.shape;have hQo:=HQn.out _ _ hQ0 hbo;have zJo:=cJ _ hQo;have zJo2:=cJ _ (HQa.out _ (.cells #[.int .i64 o.id,.int .i64 o.kind,.slice lop o.links.length loc,.string o.text] 96) hQo);go_wp2_with fail;refine ET 4 8 (by kernel_rfl) (Eo rfl (by rfl) (fun K hK=>?_)) (Eo rfl (by rfl) (fun K hK=>?_))
    ·go_wp2_with fail
     refine tk1 8 (fun K hK=>?_);go_wp2_with fail;have hin:=Gc (HG.out.below (hQb _ hQo)) hoo.lt (fun b hb=>⟨hb.2,fun e=>by have h1:=(HG.out.gath.block e).2;have h2:=(hQb _ hQ0).size;omega⟩) (show l.length≤1000 by omega) (show B≤xo.heap.size by have:=(hQb _ hQo).size;omega) hlo rfl;refine tk1 9 (fun K hK=>?_);go_wp2_with fail;refine hin.mono ?_;rintro e w9 ⟨v',rfl,hG9,hu9,hat9⟩;have Hend:=zh (KY hB hJw HSJ.out hvJ HcJ.out (hQb _ hQ0) (hQb _ hQo) (fun g hg=>(HG.out.gath.block hg).1) hG9 hu9 hat9);have hJ9:w9.heap[J]?=some (.cells #[_] 143 (0,0)):=hu9.blk (((hQb _ hQo).block _ hJw).trans HcJ.out) hvJ;have cJ9:=Aa (j:=0) hJ9 rfl;have fJ9:=Ad (j:=0) hJ9;obtain⟨⟨va9,vc9⟩,hv9⟩:∃p:Option Addr×Nat,v'=.slice p.1 (Ku l k o).length p.2:=by
      obtain⟨a,c,h⟩:=hG9.gath.shape;exact⟨(a,c),h⟩
     subst hv9;clear hin hG9 hu9 hat9 hJ9;go_wp2_with fail;refine tk1 10 (fun K hK=>?_);go_wp2_with fail;refine tk1 11 (fun K hK=>?_);go_wp2_with fail;refine tk1 12 (fun K hK=>?_);go_wp2_with fail;refine BN (by kernel_rfl) ?_;go_wp2_with fail;go_ret;exact⟨rfl,Hend.out⟩
    ·go_wp2_with fail
     refine tk1 4 (fun K hK=>?_);go_wp2_with fail;have hin:=Gc (HG.out.below (hQb _ hQo)) hoo.lt (fun b hb=>⟨hb.2,fun e=>by have h1:=(HG.out.gath.block e).2;have h2:=(hQb _ hQ0).size;omega⟩) (show l.length≤1000 by omega) (show B≤xo.heap.size by have:=(hQb _ hQo).size;omega) hlo rfl;refine tk1 9 (fun K hK=>?_);go_wp2_with fail;refine hin.mono ?_;rintro e w9 ⟨v',rfl,hG9,hu9,hat9⟩;have Hend:=zh (KY hB hJw HSJ.out hvJ HcJ.out (hQb _ hQ0) (hQb _ hQo) (fun g hg=>(HG.out.gath.block hg).1) hG9 hu9 hat9);have hJ9:w9.heap[J]?=some (.cells #[_] 143 (0,0)):=hu9.blk (((hQb _ hQo).block _ hJw).trans HcJ.out) hvJ;have cJ9:=Aa (j:=0) hJ9 rfl;have fJ9:=Ad (j:=0) hJ9;obtain⟨⟨va9,vc9⟩,hv9⟩:∃p:Option Addr×Nat,v'=.slice p.1 (Ku l k o).length p.2:=by
      obtain⟨a,c,h⟩:=hG9.gath.shape;exact⟨(a,c),h⟩
     subst hv9;clear hin hG9 hu9 hat9 hJ9;go_wp2_with fail;refine tk1 10 (fun K hK=>?_);go_wp2_with fail;refine tk1 11 (fun K hK=>?_);go_wp2_with fail;refine tk1 12 (fun K hK=>?_);go_wp2_with fail;refine BN (by kernel_rfl) ?_;go_wp2_with fail;go_ret;exact⟨rfl,Hend.out⟩
 ·have HjL:=zh (show Fq l o=l by unfold Fq;rw[if_pos hat])
  have hk:lo l o.id<l.length:=by unfold CO at hat;simp at hat;exact hat.1
  have HjE:=zh (show GO l o=if BG (obj l (lo l o.id)) o=false then 6 else 0 by unfold GO;simp[hat]);rw[HjL.out];obtain⟨a5,n5,c5,la5,ln5,lc5,HN5,e5,_,_,_,h45,h55⟩:=hst.open;cases e5;obtain⟨b,off,rfl,_,k0,k1,k2,k3⟩:=h45 (by omega);have Hs:=zh (fun x (hx:In Q x)=>Sz (obj l (lo l o.id)) o _ _ _ _ x ((h55 _ hk).below (hQb _ hx)) (ho.below (hQb _ hx)));rw[hat] at Hat;generalize lo l o.id=k at*;have x0:=fun x (hx:In Q x)=>k0 k x hk (hQb x hx)
  have x1:=fun x (hx:In Q x)=>k1 k x hk (hQb x hx)
  have x2:=fun x (hx:In Q x)=>k2 k x hk (hQb x hx)
  have x3:=fun x (hx:In Q x)=>k3 k x hk (hQb x hx)
  have HJ:=zh (fun x (hx:In Q x)=>And.intro (hJ'.below (hQb x hx)) ((hQb x hx).mono (show B≤w.heap.size by omega)));have hi1:=zk k;have hi2:(k:Int)<(l.length:Int):=by omega
  clear k0 k1 k2 k3 h45 h55 hG hSJ hvJ hcJ hst hJ' hr HN5 ho;rw[HjE.out];have Hend:=zh (fun x (hx:In Q x)=>HJ.out x hx);cases hs:BG (obj l k) o
  case' false=>rw[hs] at Hs
  case' true=>rw[hs] at Hs
  all_goals
   go_enter Tryz.func109, Tryz.ntmps109
   go_wp2_with fail;refine wp_region_quiet_below (by kernel_rfl) (by kernel_rfl) ?_
   repeat (quiet_step (exact Calls.regrown_of (Hat.out _ (hQg _ _ _ hQ1))))
   refine wpQuiet_nil ?_;intro _ hw';obtain⟨⟨dq,osq⟩,hw''⟩:=hw';subst hw'';have hQ2:=hQg _ dq osq hQ1;generalize Go.Sort.grow (redrawn _ dq) osq=w5 at*;go_wp2_with fail;refine wp_region_quiet_below (by kernel_rfl) (by kernel_rfl) ?_
   repeat (quiet_step (exact Calls.regrown_of (Hs.out _ (hQg _ _ _ hQ2))))
   refine wpQuiet_nil ?_;intro _ hw';obtain⟨⟨dq,osq⟩,hw''⟩:=hw';subst hw'';have hQ3:=hQg _ dq osq hQ2;generalize Go.Sort.grow (redrawn _ dq) osq=w6 at*;go_wp2_with fail;go_ret;exact⟨rfl,(Hend.out _ hQ3).1,(Hend.out _ hQ3).2⟩
variable [Ghost]
structure ZJ (g:Nat) (f:Array Value) (l:List Obj) (w0:World) (I:Nat→World→Prop) (err:Nat→Int):Prop where
 enter:∀args w,(callFunc g args).run Tryz.prog w=.ok (.enter g args) w
 below:∀k x,I k x→Below w0.heap.size w0 x
 next:∀k x y,I k x→Below x.heap.size x y→I k y
 step:∀k x (lv:Value) (S:Nat→Prop),k<l.length→An err k=0→I k x→Bu S x (obj l k) lv→
  Calls Tryz.prog g (f++#[.agg #[.int .i64 (obj l k).id,.int .i64 (obj l k).kind,lv,.string (obj l k).text]]) x fun e w'=>e=.returned (.int .i64 (err k))∧Below w0.heap.size w0 w'∧(err k=0→I (k+1) w')
theorem NE {g:Nat} {f:Array Value} {l:List Obj} {w0 w:World} {I:Nat→World→Prop} {err:Nat→Int} (hd:ZJ g f l w0 I err) (lv:Value) (S:Nat→Prop) (h:Ai S w0 lv l) (h0:I 0 w):
  Calls Tryz.prog 93 #[lv,.func (.func g) f #[]] w fun e w'=>e=.returned (.int .i64 (An err l.length))∧Below w0.heap.size w0 w'∧(An err l.length=0→I l.length w'):=by
 have h':=h;obtain⟨a,n,cap,la,ln,lc,HN,rfl,h1,h2,h3,h4,h5⟩:=h.open;have eg:=hd.enter;have Hd:=zh hd;have Hn:=zh HN.out.1;rw[←Hn.out];clear h hd
 go_enter Tryz.func93, Tryz.ntmps93
 go_wp2_with fail;go_loopw [10] (fun i wr=>∃k:Nat,k≤n∧i=.int .i64 k∧Hid (An err k=0)∧Hid (I k wr)) (fun i _=>n-(intOf i).toNat)
 case atStart=>exact⟨0,by omega,rfl,rfl,h0⟩
 obtain⟨k,hk,rfl,Hs,HI⟩:=hrel;clear h0;have hRw:=Hd.out.below _ _ HI.out;by_cases hlt:k<n
 ·obtain⟨b,off,rfl,hb,k0,k1,k2,k3⟩:=h4 (by omega)
  have x0:=k0 k wr hlt hRw;have x1:=k1 k wr hlt hRw;have x2:=k2 k wr hlt hRw;have x3:=k3 k wr hlt hRw;obtain⟨Q,hQ,hQ1,y0,y1,y2,y3⟩:=Ev wr (.int .i64 (obj l k).id) (.int .i64 (obj l k).kind) (.slice (la k) (ln k) (lc k)) (.string (obj l k).text) 96;have Hc:=zh (Hd.out.step k _ _ S (by rw[←Hn.out];exact hlt) Hs.out (Hd.out.next _ _ _ HI.out (hQ.below _ hQ1)) ((h5 k hlt).below (Al hRw (hQ.below _ hQ1))));have z0:=y0 _ hQ1;have z1:=y1 _ hQ1;have z2:=y2 _ hQ1;have z3:=y3 _ hQ1;have hi1:=zk k;have hi2:(k:Int)<(n:Int):=by omega
  clear k0 k1 k2 k3 h4 h5 y0 y1 y2 y3;by_cases he:err k=0
  ·have hq:(err k !=0)=false:=by simpa using he
   have Hs2:=zh (show An err (k+1)=0 from Ay Hs.out he);have He:=zh he;clear he;go_wp2_with fail;refine Hc.out.mono ?_;rintro e w' ⟨rfl,hb2,hI2⟩;have HI2:=zh (hI2 He.out);clear hI2 hb2;go_wp2_with fail;go_roundw
   case rel=>exact⟨k+1,by omega,by go_num,Hs2,HI2⟩
   case measure=>simp[intOf];omega
  ·have hq:(err k !=0)=true:=by simpa using he
   have Hs2:=zh (show An err n=err k from BX Hs.out he hlt);have He:=zh he;clear he;go_wp2_with fail;refine Hc.out.mono ?_;rintro e w' ⟨rfl,hb2,hI2⟩;clear hI2;go_wp2_with fail;go_ret;exact⟨Af Hs2.out.symm,hb2,fun h=>absurd (Hs2.out.symm.trans h) He.out⟩
 ·obtain rfl:k=n:=by omega
  go_wp2_with fail;go_ret;exact⟨Af Hs.out.symm,hRw,fun _=>HI.out⟩
end Go.Proofs.YtgbnlmplkealdaaGreatDoor
namespace Go.Proofs.YtgbnlmplkealdaaGreatDoor
variable [Ghost]
theorem TN {l:List Obj} {i:Nat} {o:Obj} (h:AD l) (hi:i≤l.length) (h1:∀j,j<i→(obj l j).id<o.id) (h2:∀j,i≤j→j<l.length→o.id<(obj l j).id):AD (Ku l i o):=by
 intro a b hab hb;rw[CK hi] at hb;rcases Nat.lt_trichotomy a i with ha|rfl|ha
 ·rw[Im hi ha]
  rcases Nat.lt_trichotomy b i with hb'|rfl|hb'
  ·rw[Im hi hb'];exact h a b hab (by omega)
  ·rw[Jg hi];exact h1 a ha
  ·obtain⟨c,rfl⟩:∃c,b=c+1:=⟨b-1,by omega⟩
   rw[Il hi (by omega)];exact h a c (by omega) (by omega)
 ·obtain⟨c,rfl⟩:∃c,b=c+1:=⟨b-1,by omega⟩
  rw[Jg hi,Il hi (by omega)];exact h2 c (by omega) (by omega)
 ·obtain⟨c,rfl⟩:∃c,b=c+1:=⟨b-1,by omega⟩
  obtain⟨d,rfl⟩:∃d,a=d+1:=⟨a-1,by omega⟩;rw[Il hi (by omega),Il hi (by omega)];exact h d c (by omega) (by omega)
theorem AD.lo_gt {l:List Obj} (h:AD l) {id:Int} (hn:CO l id=false):∀j,lo l id≤j→j<l.length→id<(obj l j).id:=by
 intro j hj hjl;have h1:=h.lo_ge j hj hjl;rcases Nat.lt_or_ge (lo l id) j with h2|h2
 ·have a:=h.lo_ge (id:=id) (lo l id) (Nat.le_refl _) (by omega)
  have b:=h (lo l id) j h2 hjl;omega
 ·have e:j=lo l id:=by omega
  subst e;have:¬(obj l (lo l id)).id=id:=by
   unfold CO at hn;intro e;simp[hjl,e] at hn
  omega
theorem AD.join {l:List Obj} (h:AD l) (o:Obj):AD (Fq l o):=by
 unfold Fq;split
 ·exact h
 ·rename_i hn
  exact TN h (PM _ _) (fun j hj=>h.lo_lt j hj) (h.lo_gt (by simpa using hn))
theorem Qy (l:List Obj) (o:Obj):(Fq l o).length≤l.length+1:=by
 unfold Fq;split
 ·omega
 ·rw[CK (PM _ _)];omega
def Aq (l more:List Obj):Nat→List Obj
 |0=>l
 |k+1=>Fq (Aq l more k) (obj more k)
def BT (l more:List Obj) (k:Nat):Int:=GO (Aq l more k) (obj more k)
theorem Gq {l:List Obj} (h:AD l) (more:List Obj) (k:Nat):AD (Aq l more k):=by
 induction k with
 |zero=>exact h
 |succ k ih=>exact ih.join _
theorem EW (l more:List Obj) (k:Nat):(Aq l more k).length≤l.length+k:=by
 induction k with
 |zero=>exact Nat.le_refl _
 |succ k ih=>have:=Qy (Aq l more k) (obj more k);show(Fq _ _).length≤_;omega
def Cd (l more:List Obj):Int:=if An (BT l more) more.length=0 then Aj (Aq l more more.length) else An (BT l more) more.length
def Cs (l more:List Obj):List Obj:=if Cd l more=0 then Aq l more more.length else[]
def DE (l more:List Obj):Int:=
 if Aj l≠0 then Aj l else if 12<more.length then 2 else if An (fun k=>Aw (obj more k)) more.length≠0 then An (fun k=>Aw (obj more k)) more.length else Cd l more
def CD (l more:List Obj):List Obj:=if DE l more=0 then Aq l more more.length else[]
end Go.Proofs.YtgbnlmplkealdaaGreatDoor
namespace Go.Proofs.YtgbnlmplkealdaaGreatDoor
open Go.RowKit
variable [Ghost]
theorem Ts (l more:List Obj) (hr:AD l) (hl:l.length≤500) (hm:more.length≤400) (w0:World) (J:Nat) (hJ:w0.heap.size≤J):
  ZJ 109 #[.pointer (some ⟨J,0,none⟩)] more w0 (fun k x=>GX w0.heap.size J x (Aq l more k)∧Below w0.heap.size w0 x) (BT l more) where
 enter:=fun _ _=>rfl
 below:=fun k x h=>h.2
 next:=fun k x y h hb=>⟨h.1.below hb,Al h.2 hb⟩
 step:=fun k x lv S hk hs hI ho=>by
  have hj:=XC hI.1 (Gq hr more k) (obj more k) lv S ho (by have:=EW l more k;omega) hJ;refine hj.mono ?_;rintro e w' ⟨rfl,h1,h2⟩;have hb:Below w0.heap.size w0 w':=hI.2.trans h2;exact⟨rfl,hb,fun _=>⟨h1,hb⟩⟩
theorem Tr {B:Nat} {w1:World} {v:Value} {l:List Obj} (h:El B w1 v l):GX B w1.heap.size (w1.alloc (.cells #[v] 143)) l:=by
 obtain⟨S,hS,hge⟩:=h;obtain⟨lvs,h1,h2,h3⟩:=id hS;exact⟨v,S,hS.below bal,fun b hb=>⟨fun e=>by have:=(h1 b hb).1;omega,hge b hb⟩,fun e=>by have:=(h2.lt _ e).2;omega,heap_alloc_new w1 _⟩
theorem PY (l more:List Obj) (lv mv:Value) (S S':Nat→Prop) (w:World) (h:Ai S w lv l) (hm:Ai S' w mv more) (hr:AD l) (hl:l.length≤500) (hml:more.length≤400):
  Calls Tryz.prog 76 #[lv,mv] w fun e w'=>GG w w' e (Cs l more) (Cd l more):=by
 have hmf:∀(fn:Fn) (first cap:Array Value) (w:World),(Instr.makeFunc fn first cap).run Tryz.prog w=.ok (.func fn first cap) w:=fun _ _ _ _=>rfl
 have Hown:=zh (Iz l lv S w h);have HE:=zh (fun J (hJ:w.heap.size≤J) x (hx:GX w.heap.size J x l∧Below w.heap.size w x)=>NE (Ts l more hr hl hml w J hJ) mv S' hm hx);have HC:=zh (fun v x (hx:Ai (fun b=>w.heap.size≤b) x v (Aq l more more.length))=>EF (Aq l more more.length) v _ x hx);have HwE:=zh (show Cd l more=if An (BT l more) more.length=0 then Aj (Aq l more more.length) else An (BT l more) more.length from rfl);have HwL:=zh (show Cs l more=if Cd l more=0 then Aq l more more.length else[] from rfl);have hjl:=EW l more more.length;have HJl:=zh (show(Aq l more more.length).length*56≤140737488351232 by omega);obtain⟨la,lc,rfl⟩:=h.vshape;obtain⟨ma,mc,rfl⟩:=hm.vshape;clear h hm hjl;generalize Aq l more more.length=jl at*;generalize An (BT l more) more.length=se at*;have h3:(se=0∧Aj jl=0)∨(se=0∧Aj jl≠0)∨se≠0:=by
  by_cases a:se=0
  ·by_cases b:Aj jl=0
   ·exact .inl ⟨a,b⟩
   ·exact .inr (.inl ⟨a,b⟩)
  ·exact .inr (.inr a)
 rcases h3 with⟨hs,hc⟩|⟨hs,hc⟩|hs
 case' inl=>
  have hq:(se==0)=true:=by simpa using hs
  have hq2:(Aj jl !=0)=false:=by simpa using hc
  rw[if_pos hs] at HwE;have Hs:=zh hs;rw[HwL.out,HwE.out,if_pos hc,hc];clear hs hc
 case' inr.inl=>
  have hq:(se==0)=true:=by simpa using hs
  have hq2:(Aj jl !=0)=true:=by simpa using hc
  rw[if_pos hs] at HwE;have Hs:=zh hs;rw[HwL.out,HwE.out,if_neg hc];clear hs hc
 case' inr.inr=>
  have hq:(se==0)=false:=by simpa using hs
  have hq2:(se !=0)=true:=by simpa using hs
  rw[if_neg hs] at HwE;rw[HwL.out,HwE.out,if_neg hs];clear hs
 all_goals
  go_enter Tryz.func76, Tryz.ntmps76
  go_wp2_with fail;refine Hown.out.mono ?_;rintro e w1 ⟨v1,rfl,hg1,hb1⟩;obtain⟨va,vc,rfl⟩:=hg1.gath.shape;have hJ:=Tr hg1;have hb2:Below w.heap.size w (w1.alloc (.cells #[.slice va l.length vc] 143)):=Al hb1 bal;have Hea:=zh (HE.out w1.heap.size hb1.size _ ⟨hJ,hb2⟩);clear hJ hb2 hg1 hb1;go_wp2_with fail;refine Hea.out.mono ?_;rintro e w3 ⟨rfl,hb3,hI3⟩
 ·have Hb3:=zh hb3
  clear hI3;go_wp2_with fail;go_ret2;exact⟨_,rfl,Ai.nil _ _ _ _ (by omega),Hb3.out⟩
 ·obtain⟨hJ3,hB3⟩:=hI3 Hs.out
  obtain⟨v3,S3,hG3,hS3,_,hc3⟩:=hJ3;obtain⟨a3,c3,rfl⟩:=hG3.gath.shape;have hst:=El.store ⟨S3,hG3,fun b hb=>(hS3 b hb).2⟩ HJl.out;have j0:=Aa (j:=0) hc3 rfl;have Hck:=zh (HC.out _ _ hst);go_wp2_with fail;refine Hck.out.mono ?_;rintro e w4 ⟨rfl,hb4⟩;have j4:=Aa (j:=0) ((hb4.block _ (lt_of_block hc3)).trans hc3) rfl;have Hend:=zh (And.intro (hst.below hb4) (Al hB3 hb4));have Hx:=zh (Al hB3 hb4);go_wp2_with fail;go_ret2;exact⟨_,rfl,Ai.nil _ _ _ _ (by omega),Hend.out.2⟩
 ·obtain⟨hJ3,hB3⟩:=hI3 Hs.out
  obtain⟨v3,S3,hG3,hS3,_,hc3⟩:=hJ3;obtain⟨a3,c3,rfl⟩:=hG3.gath.shape;have hst:=El.store ⟨S3,hG3,fun b hb=>(hS3 b hb).2⟩ HJl.out;have j0:=Aa (j:=0) hc3 rfl;have Hck:=zh (HC.out _ _ hst);go_wp2_with fail;refine Hck.out.mono ?_;rintro e w4 ⟨rfl,hb4⟩;have j4:=Aa (j:=0) ((hb4.block _ (lt_of_block hc3)).trans hc3) rfl;have Hend:=zh (And.intro (hst.below hb4) (Al hB3 hb4));go_wp2_with fail;go_ret2;exact⟨_,rfl,Hend.out.1,Hend.out.2⟩
variable [Ghost]
def Ew (more:List Obj):Int:=An (fun k=>Aw (obj more k)) more.length
theorem Mj (more:List Obj) (w0:World):ZJ 94 #[] more w0 (fun _ x=>Below w0.heap.size w0 x) (fun k=>Aw (obj more k)) where
 enter:=fun _ _=>rfl
 below:=fun k x h=>h
 next:=fun k x y h hb=>Al h hb
 step:=fun k x lv S hk hs hI ho=>by
  refine(LO (obj more k) lv S x ho).mono ?_;rintro e w' ⟨rfl,h2⟩;exact⟨rfl,Al hI h2,fun _=>Al hI h2⟩
theorem WG (l more:List Obj) (lv mv:Value) (S S':Nat→Prop) (w:World) (h:Ai S w lv l) (hm:Ai S' w mv more):
  Calls Tryz.prog 161 #[lv,mv] w fun e w'=>GG w w' e (CD l more) (DE l more):=by
 have HC:=zh (fun x (hx:Below w.heap.size w x)=>EF l lv _ x (h.below hx));have HE:=zh (fun x (hx:Below w.heap.size w x)=>NE (Mj more w) mv S' hm hx);have HW:=zh (fun(hr:AD l) hl hml x (hx:Below w.heap.size w x)=>PY l more lv mv S S' x (h.below hx) (hm.below hx) hr hl hml);have HwE:=zh (show DE l more=if Aj l≠0 then Aj l else if 12<more.length then 2 else if Ew more≠0 then Ew more else Cd l more from rfl);have HwL:=zh (show CD l more=if DE l more=0 then Aq l more more.length else[] from rfl);have HwL2:=zh (show Cs l more=if Cd l more=0 then Aq l more more.length else[] from rfl);obtain⟨la,lc,rfl⟩:=h.vshape;obtain⟨ma,mc,rfl⟩:=hm.vshape;have Hz:=zh (BB (l:=l));have Hri:=zh (AS (l:=l));have hee:An (fun k=>Aw (obj more k)) more.length=Ew more:=rfl;rw[hee] at HE;have hm63:more.length*56≤140737488351232:=by
  obtain⟨_,⟨_,_,_,_,_,h3,_⟩,_⟩:=hm;exact h3
 clear h hm hee;generalize Ew more=ee at*;by_cases hc:Aj l=0
 ·have hq:(Aj l==0)=true:=by simpa using hc
  have hlen:=(Hz.out hc).1;have HW2:=zh (fun hml=>HW.out (Hri.out hc) (by omega) hml);rw[hc] at HC;by_cases h12:12<more.length
  ·have hd:decide ((12:Int)<(more.length:Int))=true:=by simp;omega
   have e1:DE l more=2:=by rw[HwE.out];simp[hc,h12]
   have e2:CD l more=[]:=by rw[HwL.out,e1];rfl
   rw[e1,e2];clear e1 e2;clear hc hq
   go_enter Tryz.func161, Tryz.ntmps161
   go_wp2_with fail;refine(HC.out _ (Below.refl _ _)).mono ?_;rintro e w1 ⟨rfl,hb1⟩;go_wp2_with fail;go_ret2;exact⟨_,rfl,Ai.nil _ _ _ _ (by omega),hb1⟩
  ·have hd:decide ((12:Int)<(more.length:Int))=false:=by simp;omega
   have HW3:=zh (HW2.out (by omega));by_cases he:ee=0
   ·have e1:DE l more=Cd l more:=by rw[HwE.out];simp[hc,h12,he]
    have e2:CD l more=Cs l more:=by rw[HwL.out,HwL2.out,e1]
    rw[e1,e2];clear e1 e2;rw[he] at HE;clear hc hq h12 he
    go_enter Tryz.func161, Tryz.ntmps161
    go_wp2_with fail;refine(HC.out _ (Below.refl _ _)).mono ?_;rintro e w1 ⟨rfl,hb1⟩;go_wp2_with fail;refine(HE.out _ hb1).mono ?_;rintro e w2 ⟨rfl,hb2,_⟩;go_wp2_with fail;refine(HW3.out _ hb2).mono ?_;rintro e w3 ⟨v3,rfl,hv3,hb3⟩;obtain⟨a3,c3,rfl⟩:=hv3.vshape;have Hend:=zh (And.intro (hv3.weaken (S':=fun b=>w.heap.size≤b) fun b hb=>Nat.le_trans hb2.size hb) (Al hb2 hb3));clear hv3 hb3 hb2;go_wp2_with fail;go_ret2;exact⟨_,rfl,Hend.out.1,Hend.out.2⟩
   ·have hq3:(ee==0)=false:=by simpa using he
    have hq4:(ee !=0)=true:=by simpa using he
    have e1:DE l more=ee:=by rw[HwE.out];simp[hc,h12,he]
    have e2:CD l more=[]:=by rw[HwL.out,e1,if_neg he]
    rw[e1,e2];clear e1 e2;clear hc hq h12 he
    go_enter Tryz.func161, Tryz.ntmps161
    go_wp2_with fail;refine(HC.out _ (Below.refl _ _)).mono ?_;rintro e w1 ⟨rfl,hb1⟩;go_wp2_with fail;refine(HE.out _ hb1).mono ?_;rintro e w2 ⟨rfl,hb2,_⟩;go_wp2_with fail;go_ret2;exact⟨_,rfl,Ai.nil _ _ _ _ (by omega),hb2⟩
 ·have hq:(Aj l==0)=false:=by simpa using hc
  have hq2:(Aj l !=0)=true:=by simpa using hc
  rw[HwL.out,HwE.out,if_pos hc,if_neg hc];generalize Aj l=cl at*
  go_enter Tryz.func161, Tryz.ntmps161
  go_wp2_with fail;refine(HC.out _ (Below.refl _ _)).mono ?_;rintro e w1 ⟨rfl,hb1⟩;go_wp2_with fail;go_ret2;exact⟨_,rfl,Ai.nil _ _ _ _ (by omega),hb1⟩
variable [Ghost]
end Go.Proofs.YtgbnlmplkealdaaGreatDoor
namespace Go.Proofs.YtgbnlmplkealdaaGreatDoor
variable [Ghost]
theorem Gg {l:List Obj} {i:Nat} (h:i<l.length):obj l i∈l:=Ko h
theorem Io {l:List Obj} {x:Obj} (h:x∈l):∃i,i<l.length∧obj l i=x:=by
 obtain⟨i,hi,rfl⟩:=List.getElem_of_mem h;exact⟨i,hi,Dm hi⟩
theorem Zd {l:List Obj} {i:Nat} {o x:Obj}:x∈Ku l i o↔x=o∨x∈l:=by
 unfold Ku;rw[List.mem_append,List.mem_cons];constructor
 ·rintro(h|h|h)
  ·exact .inr (List.mem_of_mem_take h)
  ·exact .inl h
  ·exact .inr (List.mem_of_mem_drop h)
 ·rintro(h|h)
  ·exact .inr (.inl h)
  ·rw[←List.take_append_drop i l,List.mem_append] at h
   rcases h with h|h
   ·exact .inl h
   ·exact .inr (.inr h)
theorem LY {l:List Obj} {id:Int} (h:CO l id=true):lo l id<l.length∧(obj l (lo l id)).id=id:=by
 unfold CO at h;simpa using h
theorem AD.isAt_mem {l:List Obj} (h:AD l) {x:Obj} (hx:x∈l):CO l x.id=true∧obj l (lo l x.id)=x:=by
 obtain⟨i,hi,rfl⟩:=Io hx;exact⟨h.isAt_self hi,by rw[h.lo_self hi]⟩
theorem NQ {l:List Obj} {o:Obj}:GO l o=0↔(CO l o.id=true→obj l (lo l o.id)=o):=by
 unfold GO;by_cases h:CO l o.id=true∧BG (obj l (lo l o.id)) o=false
 ·rw[if_pos h]
  constructor
  ·intro e;cases e
  ·intro e
   have:=e h.1;have h2:=h.2;rw[this] at h2;rw[(DK o o).2 rfl] at h2;cases h2
 ·rw[if_neg h]
  refine⟨fun _ hat=>?_,fun _=>rfl⟩;cases hs:BG (obj l (lo l o.id)) o
  ·exact absurd ⟨hat,hs⟩ h
  ·exact(DK _ _).1 hs
theorem GB {l:List Obj} {n:Nat} (h:n<l.length):l.take (n+1)=l.take n++[obj l n]:=by
 rw[List.take_succ_eq_append_getElem h,Dm h]
theorem FK {l more:List Obj}:∀{n:Nat},n≤more.length→An (BT l more) n=0→∀x,x∈Aq l more n↔x∈l∨x∈more.take n
 |0,_,_,x=>by simp[Aq]
 | n+1,hn,h,x=>by
  have h0:BT l more n=0:=Bn h n (by omega);have hs:An (BT l more) n=0:=Bd fun k hk=>Bn h k (by omega)
  have ih:=FK (by omega) hs;rw[GB hn,List.mem_append,List.mem_singleton];show x∈Fq (Aq l more n) (obj more n)↔_
  unfold Fq;by_cases hat:CO (Aq l more n) (obj more n).id=true
  ·rw[if_pos hat,ih x]
   have ho:=(NQ.1 h0) hat;have hm:obj more n∈Aq l more n:=by rw[←ho];exact Gg (LY hat).1
   have hm':=(ih _).1 hm;constructor
   ·rintro(a|a)
    ·exact .inl a
    ·exact .inr (.inl a)
   ·rintro(a|a|a)
    ·exact .inl a
    ·exact .inr a
    ·rw[a];exact hm'
  ·rw[if_neg hat,Zd,ih x]
   constructor
   ·rintro(a|a|a)
    ·exact .inr (.inr a)
    ·exact .inl a
    ·exact .inr (.inl a)
   ·rintro(a|a|a)
    ·exact .inr (.inl a)
    ·exact .inr (.inr a)
    ·exact .inl a
def aG (l more:List Obj):Prop:=∀x y,(x∈l∨x∈more)→(y∈l∨y∈more)→x.id=y.id→x=y
theorem RQ {l more:List Obj} (hr:AD l):An (BT l more) more.length=0↔aG l more:=by
 constructor
 ·intro h x y hx hy e
  have hm:=FK (Nat.le_refl _) h;have hJ:=Gq hr more more.length;rw[List.take_length] at hm;have h1:=hJ.isAt_mem ((hm x).2 hx);have h2:=hJ.isAt_mem ((hm y).2 hy);rw[←h1.2,e,h2.2]
 ·intro hc
  have:∀n,n≤more.length→An (BT l more) n=0:=by
   intro n
   induction n with
   |zero=>intro _;rfl
   |succ n ih=>
    intro hn;have hs:=ih (by omega);refine Ay hs (NQ.2 fun hat=>?_);have hm:=FK (Nat.le_of_succ_le hn) hs;have h1:=LY hat;have h2:=(hm _).1 (Gg h1.1);exact hc _ _ (h2.imp id List.mem_of_mem_take) (.inr (Gg hn)) h1.2
  exact this _ (Nat.le_refl _)
theorem AD.pairwise {l:List Obj} (h:AD l):l.Pairwise (fun x y=>x.id<y.id):=by
 rw[List.pairwise_iff_getElem];intro i j hi hj hij;have:=h i j hij hj
 rwa [Dm hi,Dm hj] at this
theorem OG:∀{a b:List Obj},a.Pairwise (fun x y=>x.id<y.id)→b.Pairwise (fun x y=>x.id<y.id)→(∀x,x∈a↔x∈b)→a=b
 |[],[],_,_,_=>rfl
 |[],y::b,_,_,h=>absurd ((h y).2 List.mem_cons_self) (by simp)
 |x::a,[],_,_,h=>absurd ((h x).1 List.mem_cons_self) (by simp)
 | x::a,y::b,ha,hb,h=>by
  rw[List.pairwise_cons] at ha hb;have e:x=y:=by
   rcases List.mem_cons.1 ((h x).1 List.mem_cons_self) with e|h1
   ·exact e
   ·rcases List.mem_cons.1 ((h y).2 List.mem_cons_self) with e|h2
    ·exact e.symm
    ·have:=hb.1 _ h1;have:=ha.1 _ h2;omega
  subst e;rw[OG ha.2 hb.2 fun z=>⟨fun hz=>?_,fun hz=>?_⟩]
  ·rcases List.mem_cons.1 ((h z).1 (List.mem_cons_of_mem _ hz)) with e|h1
   ·subst e;have:=ha.1 _ hz;omega
   ·exact h1
  ·rcases List.mem_cons.1 ((h z).2 (List.mem_cons_of_mem _ hz)) with e|h1
   ·subst e;have:=hb.1 _ hz;omega
   ·exact h1
theorem AD.ext {a b:List Obj} (ha:AD a) (hb:AD b) (h:∀x,x∈a↔x∈b):a=b:=OG ha.pairwise hb.pairwise h
structure Zy (l more J:List Obj):Prop where
 left:Aj l=0
 many:more.length≤12
 each:∀o∈more,Aw o=0
 cons:aG l more
 whole:Aj J=0
 mem:∀x,x∈J↔x∈l∨x∈more
theorem add_zero {l more:List Obj}:DE l more=0↔Zy l more (Aq l more more.length):=by
 unfold DE;by_cases h1:Aj l=0
 ·rw[if_neg (by simpa using h1)]
  by_cases h2:12<more.length
  ·rw[if_pos h2];exact⟨fun e=>(by cases e),fun e=>(by have:=e.many;omega)⟩
  ·rw[if_neg h2]
   have hr:=AS h1;by_cases h3:An (fun k=>Aw (obj more k)) more.length=0
   ·rw[if_neg (by simpa using h3)]
    unfold Cd;have he:∀o∈more,Aw o=0:=fun o ho=>by
     obtain⟨i,hi,rfl⟩:=Io ho;exact Bn h3 i hi
    by_cases h4:An (BT l more) more.length=0
    ·rw[if_pos h4]
     refine⟨fun e=>⟨h1,by omega,he,(RQ hr).1 h4,e,fun x=>?_⟩,fun e=>e.whole⟩;have:=FK (Nat.le_refl _) h4 x
     rwa [List.take_length] at this
    ·rw[if_neg h4];exact⟨fun e=>absurd e h4,fun e=>absurd ((RQ hr).2 e.cons) h4⟩
   ·rw[if_pos (by simpa using h3)]
    refine⟨fun e=>absurd e h3,fun e=>absurd (Bd fun k hk=>e.each _ (Gg hk)) h3⟩
 ·rw[if_pos (by simpa using h1)];exact⟨fun e=>absurd e h1,fun e=>absurd e.left h1⟩
theorem WH {l more:List Obj} (h:DE l more=0):Zy l more (CD l more):=by
 have:=add_zero.1 h;unfold CD;rw[if_pos h];exact this
end Go.Proofs.YtgbnlmplkealdaaGreatDoor
