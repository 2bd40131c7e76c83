
/- LineB: walks of update. -/
import Derived.Test.YtgbnlmplkealdaaGreatDoorC23
import Derived.Test.YtgbnlmplkealdaaGreatDoorC17
import Derived.Shelf.SlSortCmp.NoneTotal
set_option linter.all false
set_option maxHeartbeats 4000000
set_option maxRecDepth 100000
namespace Go.Proofs.YtgbnlmplkealdaaGreatDoor
open Go.RowKit
variable [Ghost]
theorem Vq (x y:Mv) (W:World):
  Calls Tryz.prog 164 #[.agg #[.string x.name,.int .i64 x.old,.int .i64 x.new],.agg #[.string y.name,.int .i64 y.old,.int .i64 y.new]] W
   fun e w'=>e=.returned (.int .i64 (Jc x.name y.name))∧∃q os',w'=Go.Sort.grow (W.drewN q) os':=by
 have hcon:=fun W'=>Tryz.strings_Compare x.name y.name W'
 unfold Jc;generalize Lib.compareBytes x.name.data.toList y.name.data.toList=r at hcon⊢
 go_enter Tryz.func164, Tryz.ntmps164
 go_wp2_with fail;refine(hcon _).mono ?_;rintro e w' ⟨rfl,rfl⟩;go_wp2_with fail;go_ret;exact⟨rfl,0,_,by rw[Go.Sort.alloc_eq_grow,Go.Sort.alloc_eq_grow,Go.Sort.grow_grow];rfl⟩
theorem HQ {w w':World} {D:Nat} {o:Go.Obj} (h:w.heap[D]?=some o) (hb:Below w.heap.size w w'):w'.heap[D]?=some o:=(hb.block _ (lt_of_block h)).trans h
theorem XM {S:Nat→Prop} {w:World} {v:Value} {l:List Mv} (h:AJ S w v l):AJ (fun b=>S b∧b<w.heap.size) w v l:=by
 obtain⟨⟨a,cap,hv,h1,h2,h3,h4⟩,h5⟩:=h;refine⟨⟨a,cap,hv,h1,h2,h3,fun hn=>?_⟩,h5⟩;obtain⟨b,off,ha,hS,hc⟩:=h4 hn;exact⟨b,off,ha,⟨⟨hS.1,World.block_lt_of_cell? w _ (hc 0 hn 0 _ rfl)⟩,hS.2⟩,hc⟩
theorem Ze {T S:Nat→Prop} {w w':World} {v:Value} {l:List Mv} (h:AJ S w v l) (hu:AK T w w') (hT:∀b,S b→¬T b):AJ S w' v l:=by
 have:=(XM h).same (w':=w') fun b hb=>hu.block b hb.2 (hT b hb.1)
 exact this.weaken fun b hb=>hb.1
theorem PK {d:List Mv} (h:EJ d):∀k,k≤d.length→(Jj (d.take k) ByteArray.empty).size≤39*k
 |0,_=>by show ByteArray.size ByteArray.empty≤_;simp
 |k+1,hk=>by
  have ih:=PK h k (by omega);have hm:=Cz (l:=d) (i:=k) (by omega);have:=Lx (GQ (h.name _ hm)) (h.old _ hm) (h.new _ hm);rw[List.take_succ_eq_append_getElem (by omega),Kw,ByteArray.size_append,Si];rw[Da (by omega)] at this;omega
theorem WZ (blk off size:Nat) (w:World):Go.Proofs.CmpLays Tryz.prog 164 #[] Bw 3 (fun a b=>Jc a.name b.name) blk off size w:=
 fun _ _ _ _ x y=>Vq x y _
theorem VS {B:Nat} {w:World} {v:Value} {l:List Mv} (h:GE B w v l) (h0:l.length≠0) (hl:l.length≤1000) (hB:B≤w.heap.size):
  Calls Tryz.prog 163 #[v,.func (.func 164) #[] #[]] w
   fun e w'=>e=.returned (.tuple #[])∧∃d:List Mv,d.Perm l∧(d.Pairwise fun a b=>Au b.name a.name=false)∧AJ (fun b=>B≤b) w' v d∧Below B w w':=by
 obtain⟨g,cap,rfl⟩:∃g cap,v=.slice (some ⟨g,0,none⟩) l.length cap:=by
  rcases h.1.2 with⟨rfl,hn⟩|⟨g,cap,cur,rfl,_⟩
  ·omega
  ·exact⟨g,cap,rfl⟩
 have eg:∀args w,(callFunc 164 args).run Tryz.prog w=.ok (.enter 164 args) w:=fun _ _=>rfl
 have hb:=h.block (g:=g) rfl;have hcon:=Go.Proofs.AnyQ.slices_SortFunc Tryz.sortU 3 Tryz.isAgg88 Tryz.sizeOf88 Bw (fun _=>rfl) (fun x=>XQ x) (fun a b=>Jc a.name b.name) bA 164 #[] g 0 cap l.toArray w eg (WZ _ _ _ _) (own_holds h) hb.2 (by simp;omega);refine(show Calls Tryz.prog 163 #[.slice (some ⟨g,0,none⟩) l.length cap,.func (.func 164) #[] #[]] w _ from hcon).mono ?_;rintro e w' ⟨rfl,d,m,os,hp,hs,rfl⟩;obtain⟨e1,e2,e3⟩:=TW hp hs;refine⟨rfl,d.toList,e2,e3,TE h (by omega) e1 (fun u hu=>h.2 u (e2.mem_iff.1 hu)),(Yl w g m d os).below hB (fun b e=>by rw[e];exact hb.1)⟩
theorem RS (J bk:Nat) (s x y z:ByteArray) (w:World) (hJ:w.heap[J]?=some (.cells #[.string s] 9 (0,0))) (hk:w.heap[bk]?=some (.cells #[.string x,.string y,.string z] 9 (0,0)))
  (hxs:x.size≤12) (hys:y.size≤12) (hzs:z.size≤12) (hss:s.size≤1000):
  Calls Tryz.prog 166 #[.slice (some ⟨bk,0,none⟩) 3 3,.pointer (some ⟨J,0,none⟩)] w fun e w'=>e=.returned (.tuple #[])∧
   w'.heap[J]?=some (.cells #[.string (s++(⟨(Lib.join [x.data.toList,y.data.toList,z.data.toList] [32]).toArray⟩++Fs))] 9 (0,0))∧∃x1,Below w.heap.size w x1∧AK (fun b=>b=J) x1 w':=by
 have hJs:=lt_of_block hJ;have hks:=lt_of_block hk;obtain⟨R,hR,hR1,_⟩:=Av w;have hRb:=hR.below;have hRn:=hR.next
 have HJ:=zh (fun q (hq:In R q)=>show q.heap[J]?=some (.cells #[.string s] 9 (0,0)) from(hq|>hRb q).block _ hJs|>.trans hJ);have cJ:=fun q (hq:In R q)=>Aa (j:=0) (HJ.out q hq) rfl
 have hlen:(Lib.join ([x,y,z].map (·.data.toList)) (⟨#[32]⟩:ByteArray).data.toList).length≤140737488355328:=by
  simp[Lib.join_cons,Lib.joinTail];have e1:x.data.size=x.size:=rfl;have e2:y.data.size=y.size:=rfl;have e3:z.data.size=z.size:=rfl;omega
 have HJn:=zh (fun q (hq:In R q)=>Tryz.strings_Join bk 0 3 [x,y,z] ⟨#[32]⟩ q (fun j v hv=>by
  rw[Nat.zero_add];refine Ae (hRb q hq) (Aa (j:=j) hk ?_)
  match j,hv with
  |0,hv=>cases hv;rfl
  |1,hv=>cases hv;rfl
  |2,hv=>cases hv;rfl) (by have:=(hRb q hq).size;omega) (by simp) (by simp) hlen)
 have e0:(⟨(Lib.join ([x,y,z].map (·.data.toList)) (⟨#[32]⟩:ByteArray).data.toList).toArray⟩:ByteArray)=⟨(Lib.join [x.data.toList,y.data.toList,z.data.toList] [32]).toArray⟩:=rfl;rw[e0] at HJn;have hjs:(⟨(Lib.join [x.data.toList,y.data.toList,z.data.toList] [32]).toArray⟩:ByteArray).size≤1000:=by
  show(Lib.join [x.data.toList,y.data.toList,z.data.toList] [32]).toArray.size≤1000
  simp[Lib.join_cons,Lib.joinTail];have e1:x.data.size=x.size:=rfl;have e2:y.data.size=y.size:=rfl;have e3:z.data.size=z.size:=rfl;omega
 generalize (⟨(Lib.join [x.data.toList,y.data.toList,z.data.toList] [32]).toArray⟩:ByteArray)=jn at HJn hjs⊢;have n1:¬9223372036854775807<jn.size+1:=by omega
 have n2:¬9223372036854775807<s.size+(jn.size+1):=by omega
 clear e0 hlen hk hxs hys hzs hss hjs
 go_enter Tryz.func166, Tryz.ntmps166
 go_wp2_with fail;have hRd:=hR.drew _ hR1;refine Du (by kernel_rfl) rfl ?_;generalize w.drew=x0 at*;refine tk0 1 (.slice (some ⟨bk,0,none⟩) 3 3) (fun w=>?_) ?_
 ·go_simp
 simp only[tkS];have c0:=cJ _ hRd;have hj:=zh (HJn.out _ hRd);refine ET 0 2 (by kernel_rfl) (Eo rfl (by rfl) (fun K hK=>?_)) (Eo rfl (by rfl) (fun K hK=>?_))
 ·go_wp2_with fail
  refine tk1 2 (fun K hK=>?_);go_wp2_with fail;refine hj.out.mono ?_;rintro e x1 ⟨rfl,hb⟩;have hR2:=hRn _ _ hRd hb;have c1:=cJ _ hR2;have hblk:=HJ.out _ hR2;have hu:=su J 0 x1 (.string (s++(jn++Fs)));have HE:=zh (show(x1.setCell ⟨J,0,none⟩ (.string (s++(jn++Fs)))).heap[J]?=some (.cells #[.string (s++(jn++Fs))] 9 (0,0))∧∃y1,Below w.heap.size w y1∧AK (fun b=>b=J) y1 (x1.setCell ⟨J,0,none⟩ (.string (s++(jn++Fs)))) from⟨Ah (j:=0) hblk _,x1,hRb _ hR2,hu⟩);have f1:=Ad (j:=0) hblk;clear hu hblk;unfold Fs at HE;go_wp2_with fail;refine tk1 3 (fun K hK=>?_);go_wp2_with fail;refine tk1 4 (fun K hK=>?_);go_wp2_with fail;refine tk1 5 (fun K hK=>?_);go_wp2_with fail;refine BN (by kernel_rfl) ?_;go_wp2_with fail;go_end0;exact⟨rfl,HE.out⟩
 ·go_wp2_with fail
  refine hj.out.mono ?_;rintro e x1 ⟨rfl,hb⟩;have hR2:=hRn _ _ hRd hb;have c1:=cJ _ hR2;have hblk:=HJ.out _ hR2;have hu:=su J 0 x1 (.string (s++(jn++Fs)));have HE:=zh (show(x1.setCell ⟨J,0,none⟩ (.string (s++(jn++Fs)))).heap[J]?=some (.cells #[.string (s++(jn++Fs))] 9 (0,0))∧∃y1,Below w.heap.size w y1∧AK (fun b=>b=J) y1 (x1.setCell ⟨J,0,none⟩ (.string (s++(jn++Fs)))) from⟨Ah (j:=0) hblk _,x1,hRb _ hR2,hu⟩);have f1:=Ad (j:=0) hblk;clear hu hblk;unfold Fs at HE;go_wp2_with fail;refine ET 0 3 (by kernel_rfl) (Eo rfl (by rfl) (fun K hK=>?_)) (Eo rfl (by rfl) (fun K hK=>?_))
  ·go_wp2_with fail
   refine tk1 3 (fun K hK=>?_);go_wp2_with fail;refine tk1 4 (fun K hK=>?_);go_wp2_with fail;refine tk1 5 (fun K hK=>?_);go_wp2_with fail;refine BN (by kernel_rfl) ?_;go_wp2_with fail;go_end0;exact⟨rfl,HE.out⟩
  ·go_wp2_with fail
   refine tk1 0 (fun K hK=>?_);go_wp2_with fail;refine tk1 4 (fun K hK=>?_);go_wp2_with fail;refine tk1 5 (fun K hK=>?_);go_wp2_with fail;refine BN (by kernel_rfl) ?_;go_wp2_with fail;go_end0;exact⟨rfl,HE.out⟩
theorem XF (l:List Mv) (v:Value) (S:Nat→Prop) (w:World) (h:AJ S w v l) (hok:EJ l):
  Calls Tryz.prog 149 #[v] w fun e w'=>e=.returned (.string (Fh l))∧Below w.heap.size w w':=by
 have hmf:∀(fn:Fn) (first cap:Array Value) (w:World),(Instr.makeFunc fn first cap).run Tryz.prog w=.ok (.func fn first cap) w:=fun _ _ _ _=>rfl
 have HC:=zh (KL l v S w h);have Hok:=zh hok;obtain⟨⟨a,cap⟩,rfl⟩:=h.shape;clear h hok
 go_enter Tryz.func149, Tryz.ntmps149
 go_wp2_with fail;refine HC.out.mono ?_;rintro e x1 ⟨v1,rfl,hO,hb1⟩;obtain⟨a1,c1,rfl⟩:=hO.shape;have HS:=zh (VS hO (by have:=Hok.out.some;omega) (by have:=Hok.out.many;omega) hb1.size);have HB1:=zh hb1;clear hO hb1 HC;go_wp2_with fail;refine HS.out.mono ?_;rintro e x2 ⟨rfl,d,hp,hs,hd,hb2⟩;have hr:=St hs ((Hok.out.perm hp).once);have HT:=zh (VX hp hr (fun u hu=>Kb (Hok.out.name u hu)));have HU:=zh (Hok.out.perm hp);have hlen:=hp.length_eq;obtain⟨n,hn⟩:∃n,n=l.length:=⟨_,rfl⟩;rw[←hn] at hd⊢;have Hn:=zh (show n=d.length by rw[hn,hlen]);have hn4:n≤4:=by rw[hn];exact Hok.out.many
 have Hd:=zh (XM hd);have HB2:=zh (HB1.out.trans hb2);clear hd hb2 HS hs hp hr hn hlen HB1 Hok;have hd2:=Hd.out.below ((Below.refl _ _).alloc (Nat.le_refl _) (.cells #[.string ⟨#[]⟩] 9));have hJ2:=heap_alloc_new x2 (.cells #[.string ⟨#[]⟩] 9);have hB3:Below w.heap.size w (x2.alloc (.cells #[.string ⟨#[]⟩] 9)):=HB2.out.trans ((Below.refl _ _).alloc HB2.out.size _);have HI0:=zh (And.intro hJ2 (And.intro (hd2.weaken (S':=fun b=>b≠x2.heap.size) fun b hb e=>by have:=hb.2;omega) hB3));have hJw:=zh HB2.out.size;clear hd2 hJ2 hB3 Hd;go_wp2_with fail;generalize hJJ:x2.heap.size=J at*;generalize x2.alloc _=x3 at*;go_loopw [15] (fun i wr=>∃k:Nat,k≤n∧i=.int .i64 k∧Hid (wr.heap[J]?=some (.cells #[.string (Jj (d.take k) ByteArray.empty)] 9 (0,0))∧AJ (fun b=>b≠J) wr (.slice a1 n c1) d∧Below w.heap.size w wr)) (fun i _=>n-(intOf i).toNat)
 case atStart=>exact⟨0,by omega,rfl,HI0.out⟩
 obtain⟨k,hk,rfl,HI⟩:=hrel;clear HI0;by_cases hlt:k<n
 case neg=>
  obtain rfl:k=n:=by omega
  have hJ:=HI.out.1;rw[Hn.out,List.take_length,←HT.out] at hJ;have cJ:=Aa (j:=0) hJ rfl;have HB:=zh HI.out.2.2;clear hJ;go_wp2_with fail;go_ret;exact⟨rfl,HB.out⟩
 have hkd:k<d.length:=by have:=Hn.out;omega
 have hom:=HU.out.old _ (Cz hkd);have hnm:=HU.out.new _ (Cz hkd);have hns:=GQ (HU.out.name _ (Cz hkd));have hls:=PK HU.out k (by omega);have HL:=zh (show Jj (d.take (k+1)) ByteArray.empty=Jj (d.take k) ByteArray.empty++JE (mv d k) by rw[List.take_succ_eq_append_getElem hkd,Kw,Da hkd]);obtain⟨a0,n0,cap0,HN0,e0,_,_,_,h4⟩:=HI.out.2.1.open;cases e0;obtain⟨b,off,rfl,hbJ,k0,k1,k2⟩:=h4 (by omega);have x0:=k0 k wr hlt (Below.refl _ _);have x1:=k1 k wr hlt (Below.refl _ _);have x2:=k2 k wr hlt (Below.refl _ _);have HO:=zh (show JE (mv d k)=⟨(Lib.join [(mv d k).name.data.toList,(Bl (mv d k).old).data.toList,(Bl (mv d k).new).data.toList] [32]).toArray⟩++Fs from rfl);have hso:=DY hom.1 (by omega:(mv d k).old<1000);have hsm:=DY hnm.1 (by omega:(mv d k).new<1000);obtain⟨o,ho⟩:∃o:Nat,(mv d k).old=o:=⟨(mv d k).old.toNat,by omega⟩;obtain⟨m,hm⟩:∃m:Nat,(mv d k).new=m:=⟨(mv d k).new.toNat,by omega⟩;rw[ho] at x1 HO hom hso;rw[hm] at x2 HO hnm hsm;have ho9:o<100:=by omega
 have hm9:m<100:=by omega
 have hi1:=zk k;have hi2:(k:Int)<(n:Int):=by omega
 have HI1:=zh HI.out;clear HI k0 k1 k2 h4 HN0 ho hm hom hnm hkd;generalize Jj (d.take k) ByteArray.empty=s at*;generalize (mv d k).name=nm at*;have HD1:=zh (show Bl (o:Int)=⟨(Lib.decDigits o).toArray⟩ from rfl);have HD2:=zh (show Bl (m:Int)=⟨(Lib.decDigits m).toArray⟩ from rfl);have HT1:=zh (fun x=>Tryz.strconv_Itoa_small o ho9 x);have HT2:=zh (fun x=>Tryz.strconv_Itoa_small m hm9 x);rw[←HD1.out] at HT1;rw[←HD2.out] at HT2;generalize Bl (o:Int)=so at*;generalize Bl (m:Int)=sm at*;have hJs:=lt_of_block HI1.out.1;go_wp2_with fail;obtain⟨wu,hwu⟩:∃wu,wu=wr.alloc (.cells #[.string nm,.int .i64 (o:Int),.int .i64 (m:Int)] 88):=⟨_,rfl⟩;have hub:Below wr.heap.size wr wu:=by rw[hwu];exact(Below.refl _ _).alloc (Nat.le_refl _) _
 have huk:wu.heap[wr.heap.size]?=some (.cells #[.string nm,.int .i64 (o:Int),.int .i64 (m:Int)] 88 (0,0)):=by rw[hwu];exact heap_alloc_new wr _
 rw[←hwu];clear hwu x0 x1 x2;have hU:wr.heap.size≠J:=by omega
 have hJu:=HQ HI1.out.1 hub;have hdu:=HI1.out.2.1.below hub;have hBu:=HI1.out.2.2.trans (hub.mono HI1.out.2.2.size);have HIu:=zh (And.intro hJu (And.intro hdu hBu));have Huk:=zh huk;clear hub huk hJu hdu hBu HI1;generalize wr.heap.size=U at*;refine rh (fun x:World=>x.cell? ⟨U,0,none⟩=some (.string nm)∧x.cell? ⟨U,1,none⟩=some (.int .i64 (o:Int))∧x.cell? ⟨U,2,none⟩=some (.int .i64 (m:Int))) ?_;have hS0:(fun x:World=>x.cell? ⟨U,0,none⟩=some (.string nm)∧x.cell? ⟨U,1,none⟩=some (.int .i64 (o:Int))∧x.cell? ⟨U,2,none⟩=some (.int .i64 (m:Int))) wu.drew:=⟨Aa (j:=0) Huk.out rfl,Aa (j:=1) Huk.out rfl,Aa (j:=2) Huk.out rfl⟩;have HId:=zh (show wu.drew.heap[J]?=some (.cells #[.string s] 9 (0,0))∧AJ (fun b=>b≠J) wu.drew _ d∧Below w.heap.size w wu.drew∧wu.drew.heap[U]?=some (.cells #[.string nm,.int .i64 (o:Int),.int .i64 (m:Int)] 88 (0,0)) from⟨HIu.out.1,HIu.out.2.1.below (Below.refl _ _).drew,HIu.out.2.2.drew,Huk.out⟩);clear HIu Huk;generalize wu.drew=y0 at*;refine tk 0 (.func (.func 166) #[] #[.pointer (some ⟨J,0,none⟩)]) (fun w hSw=>?_) hS0 ?_
 ·go_simp
 simp only[tkS];refine tk 1 (.pointer (some ⟨U,0,none⟩)) (fun w hSw=>?_) hS0 ?_
 ·go_simp
 simp only[tkS];refine tk 2 (.string nm) (fun w hSw=>?_) hS0 ?_
 ·have yy:=hSw.1;go_simp
 simp only[tkS];refine tk 3 (.pointer (some ⟨U,1,none⟩)) (fun w hSw=>?_) hS0 ?_
 ·go_simp
 simp only[tkS];refine tk 4 (.int .i64 (o:Int)) (fun w hSw=>?_) hS0 ?_
 ·have yy:=hSw.2.1;go_simp
 simp only[tkS];refine tk 6 (.pointer (some ⟨U,2,none⟩)) (fun w hSw=>?_) hS0 ?_
 ·go_simp
 simp only[tkS];refine tk 7 (.int .i64 (m:Int)) (fun w hSw=>?_) hS0 ?_
 ·have yy:=hSw.2.2;go_simp
 simp only[tkS];refine al1 5 ?_;refine Or.inl ?_;go_wp2_with fail;refine(HT1.out _).mono ?_;rintro e y1 ⟨rfl,rfl⟩;go_simp
 first|refine⟨hS0,?_⟩|skip
 refine al1 8 ?_;refine Or.inl ?_;go_wp2_with fail;refine(HT2.out _).mono ?_;rintro e y2 ⟨rfl,rfl⟩;go_simp
 first|refine⟨hS0,?_⟩|skip
 refine al1 9 ?_;refine Or.inl ?_;obtain⟨hJy,hdy,hBy,hUy⟩:=HId.out;have hb9:Below y2.heap.size y2 (y2.alloc (.cells #[.string nm,.string so,.string sm] 9)):=bal;have hk9:(y2.alloc (.cells #[.string nm,.string so,.string sm] 9)).heap[y2.heap.size]?=some (.cells #[.string nm,.string so,.string sm] 9 (0,0)):=heap_alloc_new y2 _;have hJ9:=HQ hJy hb9;have hd9:=hdy.below hb9;have hB9:=hBy.trans (hb9.mono hBy.size);have hU9:=HQ hUy hb9;have hS9:(fun x:World=>x.cell? ⟨U,0,none⟩=some (.string nm)∧x.cell? ⟨U,1,none⟩=some (.int .i64 (o:Int))∧x.cell? ⟨U,2,none⟩=some (.int .i64 (m:Int))) (y2.alloc (.cells #[.string nm,.string so,.string sm] 9)):=⟨Aa (j:=0) hU9 rfl,Aa (j:=1) hU9 rfl,Aa (j:=2) hU9 rfl⟩;have HX9:=zh (And.intro hJ9 (And.intro hd9 (And.intro hB9 (And.intro hU9 hk9))));clear hb9 hk9 hJ9 hd9 hB9 hU9 hJy hdy hBy hUy HId hS0;go_simp
 first|refine⟨hS9,?_⟩|skip
 generalize y2.heap.size=bk at*;generalize y2.alloc _=x9 at*;refine al1 10 ?_;refine Or.inl ?_;have HPut:=zh (RS J bk s nm so sm x9 HX9.out.1 HX9.out.2.2.2.2 hns hso hsm (by omega));go_wp2_with fail;refine HPut.out.mono ?_;rintro e x10 ⟨rfl,hJ10,z1,hz1,hu⟩;have hU10:=hu.blk (HQ HX9.out.2.2.2.1 hz1) hU;have hd10:=Ze (HX9.out.2.1.below hz1) hu (fun b hb e=>hb e);have hB9:=HX9.out.2.2.1;have hB10:=(hB9.trans (hz1.mono hB9.size)).trans (hu.below (B:=w.heap.size) (by have:=hB9.size;have:=hz1.size;omega) (fun b e=>by rw[e];exact hJw.out));have hS10:(fun x:World=>x.cell? ⟨U,0,none⟩=some (.string nm)∧x.cell? ⟨U,1,none⟩=some (.int .i64 (o:Int))∧x.cell? ⟨U,2,none⟩=some (.int .i64 (m:Int))) x10:=⟨Aa (j:=0) hU10 rfl,Aa (j:=1) hU10 rfl,Aa (j:=2) hU10 rfl⟩;have HEnd:=zh (show x10.heap[J]?=some (.cells #[.string (Jj (d.take (k+1)) ByteArray.empty)] 9 (0,0))∧AJ (fun b=>b≠J) x10 _ d∧Below w.heap.size w x10 from⟨by rw[HL.out,HO.out];exact hJ10,hd10,hB10⟩);clear hJ10 hz1 hu hU10 hd10 hB9 hB10 HPut HX9 hS9;go_simp
 first|refine⟨hS10,?_⟩|skip
 refine wpAnyH_done (by kernel_rfl) ?_ _;go_wp2_with fail;go_roundw
 case rel=>exact⟨k+1,by omega,by go_num,HEnd.out⟩
 case measure=>simp[intOf];omega
end Go.Proofs.YtgbnlmplkealdaaGreatDoor
