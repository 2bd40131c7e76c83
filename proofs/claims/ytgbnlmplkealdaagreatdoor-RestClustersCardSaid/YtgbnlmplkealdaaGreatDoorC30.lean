
/- ClusG: walks of cluster. -/
import Derived.Test.YtgbnlmplkealdaaGreatDoorC29
set_option linter.all false
set_option maxHeartbeats 16000000
set_option maxRecDepth 100000
namespace Go.Proofs.YtgbnlmplkealdaaGreatDoor
open Go.RowKit
variable [Ghost]
theorem Az.low {S:Nat→Prop} {w:World} {v:Value} {l:List Am} (h:Az S w v l):Az (fun b=>S b∧b<w.heap.size) w v l:=by
 obtain⟨vs,⟨a,cap,hv,h1,h2,h3,h4⟩,h5⟩:=h;refine⟨vs,⟨a,cap,hv,h1,h2,h3,fun hn=>?_⟩,fun i hi=>Ax.lt (h5 i hi)⟩;obtain⟨b,off,ha,hS,hc⟩:=h4 hn;exact⟨b,off,ha,⟨⟨hS.1,World.block_lt_of_cell? w _ (hc 0 hn 0 _ rfl)⟩,hS.2⟩,hc⟩
theorem Ue {r:Am} {p:BM} (hr:0≤r.gen∧r.gen≤999) (hp:As p=0):(CC r p).size≤140737488351232:=by
 by_cases h:Bv r p=0
 ·have n1:=En hr.1 hr.2
  have n2:=OL (Jp.1 (Dv hp).2.2);unfold CC;rw[if_neg (by simpa using h)];rw[ByteArray.size_append,ByteArray.size_append,ByteArray.size_append];have n3:OP.size≤10:=by decide+kernel
  have n4:YA.size≤10:=by decide+kernel
  omega
 ·rw[UI h];decide
theorem OC {l:List Am} {p:BM} {up:Int} (hc:BC l) (hp:As p=0):∀i,i<3→(CM l p up i).size≤140737488351232:=fun i hi=>by
 rw[JI hc hp hi];unfold Cb;split
 ·exact Ue (hc.each i hi).gen hp
 ·decide
theorem KQ {l:List Am} {p:BM} {up:Int} {y:Nat→Bool} {i:Nat} (hl:l.length=3) (hi:i<3):Ag (BU l p up 3) i=CY l p up i∧sa (Ca l p up 3) i=CM l p up i:=by
 have h3:i=0∨i=1∨i=2:=by omega
 have e:BU l p up 3=((l.set 0 (CY l p up 0)).set 1 (CY l p up 1)).set 2 (CY l p up 2):=rfl;refine⟨?_,?_⟩
 ·rw[e,DA (by rw[List.length_set,List.length_set];omega),DA (by rw[List.length_set];omega),DA (by omega)]
  rcases h3 with rfl|rfl|rfl<;>rfl
 ·rcases h3 with rfl|rfl|rfl<;>rfl
theorem Fw {s:ByteArray}:s.toList=[]↔s=ByteArray.empty:=by
 have h1:=BL s ByteArray.empty;constructor
 ·intro h
  have:(s.toList==ByteArray.empty.toList)=true:=by rw[h];decide+kernel
  rw[h1] at this;simpa using this
 ·rintro rfl;decide+kernel
theorem RB {l:List Am} {p:BM} {up:Int} {y:Nat→Bool} (hl:l.length=3) {i:Nat} (hi:i<3):FJ (BU l p up 3) (Ca l p up 3) y i=Gm l p up y i:=by
 obtain⟨h1,h2⟩:=KQ (p:=p) (up:=up) (y:=y) hl hi;unfold FJ Gm;rw[h1,h2];by_cases h:CM l p up i=ByteArray.empty
 ·rw[if_pos h,if_pos (Fw.2 h)]
 ·rw[if_neg h,if_neg (fun e=>h (Fw.1 e))]
theorem PC {l:List Am} {p:BM} {up:Int} {y:Nat→Bool} (hl:l.length=3):CH (BU l p up 3) (Ca l p up 3) y 3=[Ex l p up y 0,Ex l p up y 1,Ex l p up y 2]:=by
 have key:∀i,i<3→∀L:List Am,L.length=3→Ag L i=CY l p up i→(if(sa (Ca l p up 3) i).toList=[] then L else L.set i (MS (Ag (BU l p up 3) i) (y i)))=L.set i (Ex l p up y i):=by
  intro i hi L hL hr;obtain⟨h1,h2⟩:=KQ (p:=p) (up:=up) (y:=y) hl hi;unfold Ex;rw[h1,h2];by_cases h:CM l p up i=ByteArray.empty
  ·rw[if_pos h,if_pos (Fw.2 h),←hr]
   apply List.ext_getElem (by simp)
   intro j h3 h4;rw[List.getElem_set];split
   ·rename_i e;subst e;rw[EA (by omega)]
   ·rfl
  ·rw[if_neg h,if_neg (fun e=>h (Fw.1 e))]
 have hp3:(BU l p up 3).length=3:=by rw[Dx];exact hl
 have e0:=key 0 (by omega) (BU l p up 3) hp3 (KQ (y:=y) hl (by omega)).1;have e1:=key 1 (by omega) ((BU l p up 3).set 0 (Ex l p up y 0)) (by simpa using hp3) (by rw[DA (by omega),if_neg (by omega)];exact(KQ (y:=y) hl (by omega)).1);have e2:=key 2 (by omega) (((BU l p up 3).set 0 (Ex l p up y 0)).set 1 (Ex l p up y 1)) (by simpa using hp3) (by rw[DA (by simp;omega),if_neg (by omega),DA (by omega),if_neg (by omega)];exact(KQ (y:=y) hl (by omega)).1);have e:CH (BU l p up 3) (Ca l p up 3) y 3=(((BU l p up 3).set 0 (Ex l p up y 0)).set 1 (Ex l p up y 1)).set 2 (Ex l p up y 2):=by
  unfold CH CH CH CH;rw[e0,e1,e2]
 rw[e];generalize BU l p up 3=P at hp3
 match P,hp3 with
 |[a,b,c],_=>rfl
theorem TX {l:List Am} {p:BM} {up:Int} (hc:BC l) (hp:As p=0):CS (Ca l p up 3)=CZ (Cr l p up):=by rw[KD hc hp];exact OK _
theorem Yw {l:List Am} {p:BM} {up late:Int} (hc:BC l) (hp:As p=0) (hd:Cp l p up late=true) {i:Nat} (hi:i<3):
  (((sa (Ca l p up 3) i).toList==(CS (Ca l p up 3)).1.toList) && !DU late i)=(Cp l p up late && Bo l p up late i):=by
 obtain⟨a,b,_,_,_,_,ca,_⟩:=Ny hc hd;have hok:(CZ (Cr l p up)).2=true:=by
  unfold Bo at ca;rw[Bool.and_eq_true,Bool.and_eq_true] at ca;exact ca.1.1
 rw[hd,Bool.true_and,TX hc hp];unfold Bo;rw[hok,Bool.true_and,KD hc hp];have h3:i=0∨i=1∨i=2:=by omega
 rcases h3 with rfl|rfl|rfl<;>rfl
theorem Nu (l:List Am) (p:BM) (up late:Int) (v ov uv:Value) (S S1:Nat→Prop) (w:World) (h:Az S w v l) (hc:BC l) (hp:Ai S1 w ov p.objects∧AJ S1 w uv p.updates) (ht:Qf w):
  Calls Tryz.prog 44 #[.agg #[v],Dn p ov uv,.int .i64 up,.int .i64 late] w fun e w'=>∃v',e=.returned (.tuple #[.agg #[v'],.bool (Cf l p up late),.int .i64 (BK l p up late)])∧DP w.heap.size w' v' (Bf l p up late)∧Below w.heap.size w w':=by
 have H:=zh h;have HP:=zh hp;have HTw:=zh ht;have HC:=zh hc;obtain⟨ho,hu⟩:=hp;obtain⟨oap,ocp,rfl⟩:=ho.vshape;obtain⟨⟨uap,ucp⟩,rfl⟩:=hu.shape;obtain⟨a,cap,rfl⟩:=h.vshape;obtain⟨R,hR,hR1,HB0⟩:=AF w [.cells #[.slice a l.length cap] 24,.cells #[.slice oap p.objects.length ocp,.slice uap p.updates.length ucp,.bool p.force] 28,.cells #[.slice none 0 0] 24];simp only[List.foldl] at hR1;have hRb:=hR.below;have hRn:=hR.next
 have c0:=fun x (hx:In R x)=>Aa (j:=0) (HB0 x hx 0 _ rfl) rfl
 have p0:=fun x (hx:In R x)=>Aa (j:=0) (HB0 x hx 1 _ rfl) rfl
 have p1:=fun x (hx:In R x)=>Aa (j:=1) (HB0 x hx 1 _ rfl) rfl
 have p2:=fun x (hx:In R x)=>Aa (j:=2) (HB0 x hx 1 _ rfl) rfl
 simp only[Nat.add_zero] at c0;have HZ:=zh (fun x (hx:In R x)=>show x.heap[w.heap.size+2]?=some (.cells #[.slice none 0 0] 24 (0,0)) from HB0 x hx 2 _ rfl);have HSz:=zh (fun x (hx:In R x)=>show w.heap.size+3≤x.heap.size from lt_of_block (HB0 x hx 2 _ rfl));clear HB0;have HCk:=zh (fun x (hx:In R x)=>Gx p _ _ _ _ x (HP.out.1.below (hRb _ hx)) (HP.out.2.below (hRb _ hx)));have HOw:=zh (fun x (hx:In R x)=>Kt l _ _ x (H.out.below (hRb _ hx)));have HE0:=zh (show BK l p up late=if Ej p up late≠0 then Ej p up late else An (Dg l p up late) 3 from rfl);have HL0:=zh (show Bf l p up late=if BK l p up late=0 then[BA l p up late 0,BA l p up late 1,BA l p up late 2] else[] from rfl);have HD0:=zh (show Cf l p up late=if BK l p up late=0 then Cp l p up late else false from rfl);have HE1:=zh (show Ej p up late=if As p≠0 then As p else if 0≤up∧up≤7∧0≤late∧late≤7 then 0 else 3 from rfl);have cc:=c0 _ hR1;have r0:=p0 _ hR1;have r1:=p1 _ hR1;have r2:=p2 _ hR1;clear h hc ho hu ht;simp only[Dn];by_cases hck:As p=0
 case neg=>
  have HE2:=zh (show BK l p up late=As p by have h0:Ej p up late=As p:=(by rw[HE1.out,if_pos hck]);rw[HE0.out,if_pos (by rw[h0];exact hck),h0]);have HL2:=zh (show Bf l p up late=[] by rw[HL0.out,HE2.out,if_neg hck]);have HD2:=zh (show Cf l p up late=false by rw[HD0.out,HE2.out,if_neg hck]);have q1:(As p==0)=false:=by simpa using hck
  have q2:(As p !=0)=true:=by simpa using hck
  clear hck HE0 HL0 HD0 HE1;generalize As p=ce at*
  go_enter Tryz.func44, Tryz.ntmps44
  go_wp2_with fail;refine(HCk.out _ hR1).mono ?_;rintro e w1 ⟨rfl,hb1⟩;have hR2:=hRn _ _ hR1 hb1;clear cc r0 r1 r2 hb1;have hRz:=hR2;have hZ:=HZ.out _ hRz;have gz:=Aa (j:=0) hZ rfl;have fz:=Ad (j:=0) hZ;go_wp2_with fail;have hu5:=su (w.heap.size+2) 0 w1 (.slice none 0 0);have hk5:=sb hZ (.slice none 0 0);have hB5:=(hRb _ hRz).trans (hu5.below (B:=w.heap.size) (hRb _ hRz).size (fun b hb=>by have e2:b=w.heap.size+2:=hb;omega));generalize w1.setCell ⟨w.heap.size+2,0,none⟩ (.slice none 0 0)=x5 at*;have k0:=Aa (j:=0) hk5 rfl;refine bodyPost_ret (v:=.tuple #[.agg #[.slice none 0 0],.bool false,.int .i64 ce]) (by simp[results,Tryz.results44,go_sem];simp[k0]<;>rfl) rfl ?_;refine⟨_,by rw[HD2.out,HE2.out]<;>rfl,by rw[HL2.out];exact⟨fun _=>False,BD.nil _ _ _ (fun _ h=>h.elim),fun _ h=>h.elim⟩,hB5⟩
 rw[hck] at HCk;by_cases hrg:0≤up∧up≤7∧0≤late∧late≤7
 case neg=>
  have hE0:Ej p up late=3:=by rw[HE1.out,if_neg (by simpa using hck),if_neg hrg]
  have hE3:BK l p up late=3:=by rw[HE0.out,if_pos (by rw[hE0];decide),hE0]
  clear hE0;have HE2:=zh hE3;have HL2:=zh (show Bf l p up late=[] by rw[HL0.out,hE3];rfl);have HD2:=zh (show Cf l p up late=false by rw[HD0.out,hE3];rfl);clear hE3 HE0 HL0 HD0 HE1 hck;have hcase:(up<0)∨(¬up<0∧7<up)∨(¬up<0∧¬7<up∧late<0)∨(¬up<0∧¬7<up∧¬late<0∧7<late):=by omega
  clear hrg;rcases hcase with h1|⟨h1,h2⟩|⟨h1,h2,h3⟩|⟨h1,h2,h3,h4⟩
  ·skip
   go_enter Tryz.func44, Tryz.ntmps44
   go_wp2_with fail;refine(HCk.out _ hR1).mono ?_;rintro e w1 ⟨rfl,hb1⟩;have hR2:=hRn _ _ hR1 hb1;clear cc r0 r1 r2 hb1;have hRz:=hR2;have hZ:=HZ.out _ hRz;have gz:=Aa (j:=0) hZ rfl;have fz:=Ad (j:=0) hZ;go_wp2_with fail;have hu5:=su (w.heap.size+2) 0 w1 (.slice none 0 0);have hk5:=sb hZ (.slice none 0 0);have hB5:=(hRb _ hRz).trans (hu5.below (B:=w.heap.size) (hRb _ hRz).size (fun b hb=>by have e2:b=w.heap.size+2:=hb;omega));generalize w1.setCell ⟨w.heap.size+2,0,none⟩ (.slice none 0 0)=x5 at*;have k0:=Aa (j:=0) hk5 rfl;refine bodyPost_ret (v:=.tuple #[.agg #[.slice none 0 0],.bool false,.int .i64 3]) (by simp[results,Tryz.results44,go_sem];simp[k0]<;>rfl) rfl ?_;refine⟨_,by rw[HD2.out,HE2.out]<;>rfl,by rw[HL2.out];exact⟨fun _=>False,BD.nil _ _ _ (fun _ h=>h.elim),fun _ h=>h.elim⟩,hB5⟩
  ·skip
   go_enter Tryz.func44, Tryz.ntmps44
   go_wp2_with fail;refine(HCk.out _ hR1).mono ?_;rintro e w1 ⟨rfl,hb1⟩;have hR2:=hRn _ _ hR1 hb1;clear cc r0 r1 r2 hb1;have hRz:=hR2;have hZ:=HZ.out _ hRz;have gz:=Aa (j:=0) hZ rfl;have fz:=Ad (j:=0) hZ;go_wp2_with fail;have hu5:=su (w.heap.size+2) 0 w1 (.slice none 0 0);have hk5:=sb hZ (.slice none 0 0);have hB5:=(hRb _ hRz).trans (hu5.below (B:=w.heap.size) (hRb _ hRz).size (fun b hb=>by have e2:b=w.heap.size+2:=hb;omega));generalize w1.setCell ⟨w.heap.size+2,0,none⟩ (.slice none 0 0)=x5 at*;have k0:=Aa (j:=0) hk5 rfl;refine bodyPost_ret (v:=.tuple #[.agg #[.slice none 0 0],.bool false,.int .i64 3]) (by simp[results,Tryz.results44,go_sem];simp[k0]<;>rfl) rfl ?_;refine⟨_,by rw[HD2.out,HE2.out]<;>rfl,by rw[HL2.out];exact⟨fun _=>False,BD.nil _ _ _ (fun _ h=>h.elim),fun _ h=>h.elim⟩,hB5⟩
  ·skip
   go_enter Tryz.func44, Tryz.ntmps44
   go_wp2_with fail;refine(HCk.out _ hR1).mono ?_;rintro e w1 ⟨rfl,hb1⟩;have hR2:=hRn _ _ hR1 hb1;clear cc r0 r1 r2 hb1;have hRz:=hR2;have hZ:=HZ.out _ hRz;have gz:=Aa (j:=0) hZ rfl;have fz:=Ad (j:=0) hZ;go_wp2_with fail;have hu5:=su (w.heap.size+2) 0 w1 (.slice none 0 0);have hk5:=sb hZ (.slice none 0 0);have hB5:=(hRb _ hRz).trans (hu5.below (B:=w.heap.size) (hRb _ hRz).size (fun b hb=>by have e2:b=w.heap.size+2:=hb;omega));generalize w1.setCell ⟨w.heap.size+2,0,none⟩ (.slice none 0 0)=x5 at*;have k0:=Aa (j:=0) hk5 rfl;refine bodyPost_ret (v:=.tuple #[.agg #[.slice none 0 0],.bool false,.int .i64 3]) (by simp[results,Tryz.results44,go_sem];simp[k0]<;>rfl) rfl ?_;refine⟨_,by rw[HD2.out,HE2.out]<;>rfl,by rw[HL2.out];exact⟨fun _=>False,BD.nil _ _ _ (fun _ h=>h.elim),fun _ h=>h.elim⟩,hB5⟩
  go_enter Tryz.func44, Tryz.ntmps44
  go_wp2_with fail;refine(HCk.out _ hR1).mono ?_;rintro e w1 ⟨rfl,hb1⟩;have hR2:=hRn _ _ hR1 hb1;clear cc r0 r1 r2 hb1;have hRz:=hR2;have hZ:=HZ.out _ hRz;have gz:=Aa (j:=0) hZ rfl;have fz:=Ad (j:=0) hZ;go_wp2_with fail;have hu5:=su (w.heap.size+2) 0 w1 (.slice none 0 0);have hk5:=sb hZ (.slice none 0 0);have hB5:=(hRb _ hRz).trans (hu5.below (B:=w.heap.size) (hRb _ hRz).size (fun b hb=>by have e2:b=w.heap.size+2:=hb;omega));generalize w1.setCell ⟨w.heap.size+2,0,none⟩ (.slice none 0 0)=x5 at*;have k0:=Aa (j:=0) hk5 rfl;refine bodyPost_ret (v:=.tuple #[.agg #[.slice none 0 0],.bool false,.int .i64 3]) (by simp[results,Tryz.results44,go_sem];simp[k0]<;>rfl) rfl ?_;refine⟨_,by rw[HD2.out,HE2.out]<;>rfl,by rw[HL2.out];exact⟨fun _=>False,BD.nil _ _ _ (fun _ h=>h.elim),fun _ h=>h.elim⟩,hB5⟩
 have hE0:Ej p up late=0:=by rw[HE1.out,if_neg (by simpa using hck),if_pos hrg]
 have hE4:BK l p up late=An (Dg l p up late) 3:=by rw[HE0.out,if_neg (by simpa using hE0)]
 clear hE0;have HE4:=zh hE4;have Hck:=zh hck;have Hrg:=zh hrg;have h1:¬up<0:=by omega
 have h2:¬7<up:=by omega
 have h3:¬late<0:=by omega
 have h4:¬7<late:=by omega
 clear hE4 HE0 HE1 hck hrg
 go_enter Tryz.func44, Tryz.ntmps44
 go_wp2_with fail;refine(HCk.out _ hR1).mono ?_;rintro e w1 ⟨rfl,hb1⟩;have hR2:=hRn _ _ hR1 hb1;clear cc r0 r1 r2 hb1;have HL3:=zh HC.out.len;have hq2:=p0 _ hR2;have cc2:=c0 _ hR2;go_wp2_with fail;refine(HOw.out _ hR2).mono ?_;rintro e w2 ⟨v2,rfl,⟨F,hO,hF⟩,hb2⟩;obtain⟨a2,c2,rfl⟩:=hO.shape;have hR3:=hRn _ _ hR2 hb2;have hsz1:=HSz.out _ hR2;have hle2:=hb2.size;clear hq2 cc2;obtain⟨g,rfl⟩:∃g,a2=some ⟨g,0,none⟩:=by
  obtain⟨_,_,⟨_,h2⟩,_⟩:=hO;rcases h2 with⟨e,h0⟩|⟨g,cp,cur,e,_⟩
  ·have:=HL3.out;exfalso;omega
  ·cases e;exact⟨g,rfl⟩
 have hR4:=hR.alloc _ (.cells #[.slice (some ⟨g,0,none⟩) l.length c2,.slice none 0 0,.string ⟨#[]⟩] 114) hR3;have hb3:Below w2.heap.size w2 (w2.alloc (.cells #[.slice (some ⟨g,0,none⟩) l.length c2,.slice none 0 0,.string ⟨#[]⟩] 114)):=bal;have hM3:Cw w1.heap.size g c2 w2.heap.size (w2.alloc (.cells #[.slice (some ⟨g,0,none⟩) l.length c2,.slice none 0 0,.string ⟨#[]⟩] 114)) l [] ⟨#[]⟩:=by
  have hg:w1.heap.size≤g∧g<w2.heap.size:=hO.block rfl;exact⟨F,.slice none 0 0,hO.below hb3,⟨World.ownsRow_nil _ _ _ _,fun _ hs=>by cases hs⟩,fun b hb=>⟨hF b hb,fun e=>by have:=hO.lt hb;omega,by simp[Value.ownBlock]⟩,by simp[Value.ownBlock],by simp[Value.ownBlock],by omega,heap_alloc_new w2 _⟩
 have hsz4:(w2.alloc (.cells #[.slice (some ⟨g,0,none⟩) l.length c2,.slice none 0 0,.string ⟨#[]⟩] 114)).heap.size=w2.heap.size+1:=by simp
 have HM3:=zh hM3;clear hM3 hO hF hb2 hb3;have hb03:=hRb _ hR4;have HPr:=zh (Pi g c2 w2.heap.size w1.heap.size (w2.alloc (.cells #[.slice (some ⟨g,0,none⟩) l.length c2,.slice none 0 0,.string ⟨#[]⟩] 114)) l p ⟨#[]⟩ _ _ up S1 HM3.out HL3.out ⟨Hrg.out.1,Hrg.out.2.1⟩ (fun x hx=>⟨HP.out.1.below (hb03.trans (hx.mono (by omega))),HP.out.2.below (hb03.trans (hx.mono (by omega)))⟩) (fun x hx=>HTw.out.below (hb03.trans (hx.mono (by omega)))) hle2 (OC HC.out Hck.out));simp only[Dn] at HPr;have s0:=p0 _ hR4;have s1:=p1 _ hR4;have s2:=p2 _ hR4;clear hb03;go_wp2_with fail;refine HPr.out.mono ?_;rintro e w4 ⟨rfl,hb4,hM4⟩;clear s0 s1 s2 HPr HM3;have hb4w:Below (w.heap.size+3) w2 w4:=((Below.refl _ _).alloc (by omega) _).trans (hb4.mono (by omega));have HM4:=zh hM4;clear hM4 hb4;have HDc:=zh (Td g c2 w2.heap.size w1.heap.size w4 _ _ _ late HM4.out (Ec _ _ _ 3) ⟨Hrg.out.2.2.1,Hrg.out.2.2.2⟩ hle2);have hcnt:Ie (Ca l p up 3) (CS (Ca l p up 3)).1 (CS (Ca l p up 3)).2 late 3=DG l p up late 3:=by rw[KD HC.out Hck.out];exact Xa l p up late
 rw[hcnt] at HDc;clear hcnt;go_wp2_with fail;refine HDc.out.mono ?_;rintro e w5 ⟨f,rfl,hb5,hM5,hn5,hd5⟩;have hb5w:=hb4w.trans (hb5.mono (show w.heap.size+3≤w1.heap.size by omega));have HM5:=zh hM5;clear hM5 hb5 hb4w HDc HM4;have Hdo:=zh (show Cp l p up late=decide (2≤DG l p up late 3) from rfl);by_cases hcn:2≤DG l p up late 3
 case pos=>
  have Hdv:=zh (show Cp l p up late=true by rw[Hdo.out];simpa using hcn);obtain⟨p5,q5,rfl,hp5,hq5⟩:=hd5 hcn;clear hn5 hcn hd5;have HFi:=zh (Qs g c2 w2.heap.size w1.heap.size w5 (BU l p up 3) (Ca l p up 3) _ late _ HM5.out ((Dx _ _ _ 3).trans HL3.out) (Ec _ _ _ 3) ⟨Hrg.out.2.2.1,Hrg.out.2.2.2⟩ hle2 ⟨p5,q5,rfl,hp5,hq5⟩);have HDn:=zh (PF (y:=fun i=>((sa (Ca l p up 3) i).toList==(CS (Ca l p up 3)).1.toList) && !DU late i) HC.out Hck.out (fun i hi=>Yw HC.out Hck.out Hdv.out hi) (fun i hi=>RB HL3.out hi) (PC HL3.out));rw[HDn.out.1] at HFi;clear hp5 hq5 HM5;have hne:∀w:World,(binOp BinOp.neq 116 (.func (.func 100) #[] #[.pointer (some ⟨p5,0,none⟩),.pointer (some ⟨q5,0,none⟩)]) .nilFunc).run Tryz.prog w=.ok (.bool true) w:=fun _=>by kernel_rfl
  go_wp2_with fail;refine HFi.out.mono ?_;rintro e w6 ⟨rfl,hb6,hM6⟩;have hb6w:=hb5w.trans (hb6.mono (show w.heap.size+3≤w1.heap.size by omega));clear hb6 hb5w HFi;by_cases hse:An (Dg l p up late) 3=0
  case neg=>
   have HE2:=HE4;have HL2:=zh (show Bf l p up late=[] by rw[HL0.out,HE2.out,if_neg hse]);have HD2:=zh (show Cf l p up late=false by rw[HD0.out,HE2.out,if_neg hse]);have q1:(An (Dg l p up late) 3 !=0)=true:=by simpa using hse
   clear hse HE4 HL0 HD0 hM6 HDn;generalize An (Dg l p up late) 3=se at*;have hZ:w6.heap[w.heap.size+2]?=some (.cells #[.slice none 0 0] 24 (0,0)):=(hb6w.block _ (by omega)).trans (HZ.out _ hR3);have hB6:Below w.heap.size w w6:=(hRb _ hR3).trans (hb6w.mono (by omega));have gz:=Aa (j:=0) hZ rfl;have fz:=Ad (j:=0) hZ;clear hb6w;go_wp2_with fail;have hu5:=su (w.heap.size+2) 0 w6 (.slice none 0 0);have hk5:=sb hZ (.slice none 0 0);have hB5:=hB6.trans (hu5.below (B:=w.heap.size) hB6.size (fun b hb=>by have e2:b=w.heap.size+2:=hb;omega));generalize w6.setCell ⟨w.heap.size+2,0,none⟩ (.slice none 0 0)=x5 at*;have k0:=Aa (j:=0) hk5 rfl;refine bodyPost_ret (v:=.tuple #[.agg #[.slice none 0 0],.bool false,.int .i64 se]) (by simp[results,Tryz.results44,go_sem];simp[k0]<;>rfl) rfl ?_;refine⟨_,by rw[HD2.out,HE2.out]<;>rfl,by rw[HL2.out];exact⟨fun _=>False,BD.nil _ _ _ (fun _ h=>h.elim),fun _ h=>h.elim⟩,hB5⟩
  replace hM6:=hM6 hse;rw[HDn.out.2 (HDn.out.1.trans hse)] at hM6;rw[hse];clear HDn;have HE2:=zh (HE4.out.trans hse);have HL2:=zh (show Bf l p up late=[BA l p up late 0,BA l p up late 1,BA l p up late 2] by rw[HL0.out,if_pos HE2.out]);have HD2:=zh (show Cf l p up late=true by rw[HD0.out,if_pos HE2.out];exact Hdv.out);rw[←HL2.out] at hM6;clear hse HE4 HL0 HD0;obtain⟨F6,vv6,hO6,hV6,hF6,hvM6,hvg6,hgM6,hMb6⟩:=hM6;have hlen6:(Bf l p up late).length=3:=by rw[HL2.out];rfl
  obtain⟨L6,hL6⟩:∃L6,L6=Bf l p up late:=⟨_,rfl⟩;rw[←hL6] at hlen6 hO6 hMb6;have HL6:=zh hL6;clear hL6;rw[hlen6] at hO6 hMb6;have hZ:w6.heap[w.heap.size+2]?=some (.cells #[.slice none 0 0] 24 (0,0)):=(hb6w.block _ (by omega)).trans (HZ.out _ hR3);have hB6:Below w.heap.size w w6:=(hRb _ hR3).trans (hb6w.mono (by omega));have gz:=Aa (j:=0) hZ rfl;have fz:=Ad (j:=0) hZ;have m0:=Aa (j:=0) hMb6 rfl;have HO6:=zh hO6;have HF6:=zh hF6;have HB6:=zh hB6;have HZ6:=zh hZ;have hM2:w2.heap.size≠w.heap.size+2:=by omega
  clear hO6 hV6 hF6 hvM6 hvg6 hgM6 hMb6 hZ hB6 hb6w;go_wp2_with fail;have hu5:=su (w.heap.size+2) 0 w6 (.slice (some ⟨g,0,none⟩) 3 c2);have hk5:=sb HZ6.out (.slice (some ⟨g,0,none⟩) 3 c2);have hB5:=HB6.out.trans (hu5.below (B:=w.heap.size) HB6.out.size (fun b hb=>by have e2:b=w.heap.size+2:=hb;omega));have hO7:=HO6.out.upd hu5 (fun b hb e=>by have e2:b=w.heap.size+2:=e;have:=(HF6.out b hb).1;omega) (fun q hq e=>by have e2:q=w.heap.size+2:=e;have:=(HO6.out.block hq).1;omega);generalize w6.setCell ⟨w.heap.size+2,0,none⟩ (.slice (some ⟨g,0,none⟩) 3 c2)=x5 at*;have k0:=Aa (j:=0) hk5 rfl;refine bodyPost_ret (v:=.tuple #[.agg #[.slice (some ⟨g,0,none⟩) 3 c2],.bool true,.int .i64 0]) (by simp[results,Tryz.results44,go_sem];simp[k0]<;>rfl) rfl ?_;exact⟨_,by rw[HD2.out,HE2.out],⟨F6,by rw[←HL6.out];exact hO7.weaken (fun _ h=>h) (fun b hb=>⟨hO7.lt hb,hO7.own hb⟩) (by omega),fun b hb=>by have:=(HF6.out b hb).1;omega⟩,hB5⟩
 have Hdv:=zh (show Cp l p up late=false by rw[Hdo.out];simpa using hcn);obtain rfl:=hn5 hcn;clear hd5 hn5 hcn;have HFi:=zh (RD g c2 w2.heap.size w1.heap.size w5 (BU l p up 3) (Ca l p up 3) _ HM5.out ((Dx _ _ _ 3).trans HL3.out) (Ec _ _ _ 3) hle2);have HDn:=zh (PF (late:=late) (y:=fun _=>false) HC.out Hck.out (fun i hi=>by rw[Hdv.out];rfl) (fun i hi=>RB HL3.out hi) (PC HL3.out));have hse:An (Dg l p up late) 3=0:=Bd fun k hk=>by unfold Dg;rw[if_neg (by rw[Hdv.out];simp)]
 rw[HDn.out.1,hse] at HFi;clear HM5;have hne:∀w:World,(binOp BinOp.neq 116 .nilFunc .nilFunc).run Tryz.prog w=.ok (.bool false) w:=fun _=>by kernel_rfl
 go_wp2_with fail;refine HFi.out.mono ?_;rintro e w6 ⟨rfl,hb6,hM6⟩;have hb6w:=hb5w.trans (hb6.mono (show w.heap.size+3≤w1.heap.size by omega));clear hb6 hb5w HFi;replace hM6:=hM6 trivial;rw[HDn.out.2 (HDn.out.1.trans hse)] at hM6;clear HDn;have HE2:=zh (HE4.out.trans hse);have HL2:=zh (show Bf l p up late=[BA l p up late 0,BA l p up late 1,BA l p up late 2] by rw[HL0.out,if_pos HE2.out]);have HD2:=zh (show Cf l p up late=false by rw[HD0.out,if_pos HE2.out];exact Hdv.out);rw[←HL2.out] at hM6;clear hse HE4 HL0 HD0;obtain⟨F6,vv6,hO6,hV6,hF6,hvM6,hvg6,hgM6,hMb6⟩:=hM6;have hlen6:(Bf l p up late).length=3:=by rw[HL2.out];rfl
 obtain⟨L6,hL6⟩:∃L6,L6=Bf l p up late:=⟨_,rfl⟩;rw[←hL6] at hlen6 hO6 hMb6;have HL6:=zh hL6;clear hL6;rw[hlen6] at hO6 hMb6;have hZ:w6.heap[w.heap.size+2]?=some (.cells #[.slice none 0 0] 24 (0,0)):=(hb6w.block _ (by omega)).trans (HZ.out _ hR3);have hB6:Below w.heap.size w w6:=(hRb _ hR3).trans (hb6w.mono (by omega));have gz:=Aa (j:=0) hZ rfl;have fz:=Ad (j:=0) hZ;have m0:=Aa (j:=0) hMb6 rfl;have HO6:=zh hO6;have HF6:=zh hF6;have HB6:=zh hB6;have HZ6:=zh hZ;have hM2:w2.heap.size≠w.heap.size+2:=by omega
 clear hO6 hV6 hF6 hvM6 hvg6 hgM6 hMb6 hZ hB6 hb6w;go_wp2_with fail;have hu5:=su (w.heap.size+2) 0 w6 (.slice (some ⟨g,0,none⟩) 3 c2);have hk5:=sb HZ6.out (.slice (some ⟨g,0,none⟩) 3 c2);have hB5:=HB6.out.trans (hu5.below (B:=w.heap.size) HB6.out.size (fun b hb=>by have e2:b=w.heap.size+2:=hb;omega));have hO7:=HO6.out.upd hu5 (fun b hb e=>by have e2:b=w.heap.size+2:=e;have:=(HF6.out b hb).1;omega) (fun q hq e=>by have e2:q=w.heap.size+2:=e;have:=(HO6.out.block hq).1;omega);generalize w6.setCell ⟨w.heap.size+2,0,none⟩ (.slice (some ⟨g,0,none⟩) 3 c2)=x5 at*;have k0:=Aa (j:=0) hk5 rfl;refine bodyPost_ret (v:=.tuple #[.agg #[.slice (some ⟨g,0,none⟩) 3 c2],.bool false,.int .i64 0]) (by simp[results,Tryz.results44,go_sem];simp[k0]<;>rfl) rfl ?_;exact⟨_,by rw[HD2.out,HE2.out],⟨F6,by rw[←HL6.out];exact hO7.weaken (fun _ h=>h) (fun b hb=>⟨hO7.lt hb,hO7.own hb⟩) (by omega),fun b hb=>by have:=(HF6.out b hb).1;omega⟩,hB5⟩
theorem Ja (l:List Am) (p:BM) (up late:Int) (v ov uv:Value) (S S1:Nat→Prop) (w:World) (h:Az S w v l) (hp:Ai S1 w ov p.objects∧AJ S1 w uv p.updates) (ht:Qf w):
  Calls Tryz.prog 18 #[.agg #[v],Dn p ov uv,.int .i64 up,.int .i64 late] w fun e w'=>∃v',e=.returned (.tuple #[.agg #[v'],.bool (KA l p up late),.int .i64 (KB l p up late)])∧DP w.heap.size w' v' (KC l p up late)∧Below w.heap.size w w':=by
 have H:=zh h;have HP:=zh hp;have HTw:=zh ht;obtain⟨ho,hu⟩:=hp;obtain⟨oap,ocp,rfl⟩:=ho.vshape;obtain⟨⟨uap,ucp⟩,rfl⟩:=hu.shape;obtain⟨a,cap,rfl⟩:=h.vshape;obtain⟨R,hR,hR1,HB0⟩:=AF w [.cells #[.slice a l.length cap] 24,.cells #[.slice oap p.objects.length ocp,.slice uap p.updates.length ucp,.bool p.force] 28,.cells #[.slice none 0 0] 24];simp only[List.foldl] at hR1;have hRb:=hR.below;have hRn:=hR.next
 have c0:=fun x (hx:In R x)=>Aa (j:=0) (HB0 x hx 0 _ rfl) rfl
 have p0:=fun x (hx:In R x)=>Aa (j:=0) (HB0 x hx 1 _ rfl) rfl
 have p1:=fun x (hx:In R x)=>Aa (j:=1) (HB0 x hx 1 _ rfl) rfl
 have p2:=fun x (hx:In R x)=>Aa (j:=2) (HB0 x hx 1 _ rfl) rfl
 simp only[Nat.add_zero] at c0;have HZ:=zh (fun x (hx:In R x)=>show x.heap[w.heap.size+2]?=some (.cells #[.slice none 0 0] 24 (0,0)) from HB0 x hx 2 _ rfl);have HSz:=zh (fun x (hx:In R x)=>show w.heap.size+3≤x.heap.size from lt_of_block (HB0 x hx 2 _ rfl));clear HB0;have HCk:=zh (fun x (hx:In R x)=>Fv l _ _ x (H.out.below (hRb _ hx)));have HRw:=zh (fun x (hx:In R x) (hc:BC l)=>Nu l p up late _ _ _ _ _ x (H.out.below (hRb _ hx)) hc ⟨HP.out.1.below (hRb _ hx),HP.out.2.below (hRb _ hx)⟩ (HTw.out.below (hRb _ hx)));simp only[Dn] at HRw;have HE0:=zh (show KB l p up late=if Bp l≠0 then Bp l else BK l p up late from rfl);have HL0:=zh (show KC l p up late=if Bp l=0 then Bf l p up late else[] from rfl);have HD0:=zh (show KA l p up late=if Bp l=0 then Cf l p up late else false from rfl);have cc:=c0 _ hR1;have Hcr:=zh (fun(h:Bp l=0)=>Em.1 h);clear h ho hu ht;simp only[Dn];by_cases hz:Bp l=0
 case neg=>
  have HE2:=zh (show KB l p up late=Bp l by rw[HE0.out,if_pos hz]);have HL2:=zh (show KC l p up late=[] by rw[HL0.out,if_neg hz]);have HD2:=zh (show KA l p up late=false by rw[HD0.out,if_neg hz]);have q1:(Bp l !=0)=true:=by simpa using hz
  clear hz HE0 HL0 HD0 Hcr;generalize Bp l=ce at*
  go_enter Tryz.func18, Tryz.ntmps18
  go_wp2_with fail;refine(HCk.out _ hR1).mono ?_;rintro e w1 ⟨rfl,hb1⟩;have hR2:=hRn _ _ hR1 hb1;clear cc hb1;have hRz:=hR2;have hZ:=HZ.out _ hRz;have gz:=Aa (j:=0) hZ rfl;have fz:=Ad (j:=0) hZ;go_wp2_with fail;have hu5:=su (w.heap.size+2) 0 w1 (.slice none 0 0);have hk5:=sb hZ (.slice none 0 0);have hB5:=(hRb _ hRz).trans (hu5.below (B:=w.heap.size) (hRb _ hRz).size (fun b hb=>by have e2:b=w.heap.size+2:=hb;omega));generalize w1.setCell ⟨w.heap.size+2,0,none⟩ (.slice none 0 0)=x5 at*;have k0:=Aa (j:=0) hk5 rfl;refine bodyPost_ret (v:=.tuple #[.agg #[.slice none 0 0],.bool false,.int .i64 ce]) (by simp[results,Tryz.results18,go_sem];simp[k0]<;>rfl) rfl ?_;refine⟨_,by rw[HD2.out,HE2.out]<;>rfl,by rw[HL2.out];exact⟨fun _=>False,BD.nil _ _ _ (fun _ h=>h.elim),fun _ h=>h.elim⟩,hB5⟩
 have HE2:=zh (show KB l p up late=BK l p up late by rw[HE0.out,if_neg (by simpa using hz)]);have HL2:=zh (show KC l p up late=Bf l p up late by rw[HL0.out,if_pos hz]);have HD2:=zh (show KA l p up late=Cf l p up late by rw[HD0.out,if_pos hz]);have HRx:=zh (fun x (hx:In R x)=>HRw.out x hx (Hcr.out hz));rw[hz] at HCk;clear hz HE0 HL0 HD0 Hcr HRw
 go_enter Tryz.func18, Tryz.ntmps18
 go_wp2_with fail;refine(HCk.out _ hR1).mono ?_;rintro e w1 ⟨rfl,hb1⟩;have hR2:=hRn _ _ hR1 hb1;clear cc hb1;have cc:=c0 _ hR2;have r0:=p0 _ hR2;have r1:=p1 _ hR2;have r2:=p2 _ hR2;generalize BK l p up late=re at*;generalize Bf l p up late=rl at*;generalize Cf l p up late=rd at*;go_wp2_with fail;refine(HRx.out _ hR2).mono ?_;rintro e w2 ⟨v2,rfl,⟨F,hO,hF⟩,hb2⟩;obtain⟨a2,c2,rfl⟩:=hO.shape;have hR3:=hRn _ _ hR2 hb2;have hsz1:=HSz.out _ hR2;clear cc r0 r1 r2;have HO:=zh hO;have HF:=zh hF;have HRb:=zh (hRb _ hR3);clear hO hF hb2;have hZ:=HZ.out _ hR3;have gz:=Aa (j:=0) hZ rfl;have fz:=Ad (j:=0) hZ;have HZ3:=zh hZ;clear hZ;go_wp2_with fail;have hu5:=su (w.heap.size+2) 0 w2 (.slice a2 rl.length c2);have hk5:=sb HZ3.out (.slice a2 rl.length c2);have hB5:=HRb.out.trans (hu5.below (B:=w.heap.size) HRb.out.size (fun b hb=>by have e2:b=w.heap.size+2:=hb;omega));have hO7:=HO.out.upd hu5 (fun b hb e=>by have e2:b=w.heap.size+2:=e;have:=HF.out b hb;omega) (fun q hq e=>by have e2:q=w.heap.size+2:=e;have:=(HO.out.block hq).1;omega);generalize w2.setCell ⟨w.heap.size+2,0,none⟩ (.slice a2 rl.length c2)=x5 at*;have k0:=Aa (j:=0) hk5 rfl;refine bodyPost_ret (v:=.tuple #[.agg #[.slice a2 rl.length c2],.bool rd,.int .i64 re]) (by simp[results,Tryz.results18,go_sem];simp[k0]<;>rfl) rfl ?_;exact⟨_,by rw[HD2.out,HE2.out],⟨F,by rw[HL2.out];exact hO7.weaken (fun _ h=>h) (fun b hb=>⟨hO7.lt hb,hO7.own hb⟩) (by omega),fun b hb=>by have:=HF.out b hb;omega⟩,hB5⟩
variable [Ghost]
theorem Dd.push {B:Nat} {w w1:World} {v v':Value} {l:List Obj} {o:Obj} {lv:Value} {S S2:Nat→Prop} {ob:Go.Obj} {lvs:Nat→Value}
  (h1:∀b,S b→b<w.heap.size∧v.ownBlock≠some b) (h3:∀i,i<l.length→Bu S w (obj l i) (lvs i))
  (ho:Bu S2 w o lv) (h2:∀b,S2 b→b<w.heap.size∧v.ownBlock≠some b)
  (hown:w1.ownsRow B 96 4 v' (l.length+1) (AN (fun i=>AG (obj l i) (lvs i)) l.length++AG o lv)) (hgrow:(w.alloc ob).grownBy w1 v.ownBlock)
  (hat:v'.ownBlock=v.ownBlock∨v'.ownBlock=some (w.heap.size+1)):Dd (fun b=>S b∨S2 b) B w1 v' (l++[o]):=by
 have hu:AK (fun b=>v.ownBlock=some b) w w1:=AK.grown ((AK.refl _ _).alloc ob) hgrow (fun k hk _=>hk);refine⟨fun i=>if i<l.length then lvs i else lv,fun b hb=>?_,?_,fun i hi=>?_⟩
 ·have hb':b<w.heap.size∧v.ownBlock≠some b:=by rcases hb with hb|hb;exact h1 b hb;exact h2 b hb
  refine⟨Nat.lt_of_lt_of_le hb'.1 hu.size,?_⟩;rcases hat with h|h
  ·rw[h];exact hb'.2
  ·rw[h];intro e;cases e;omega
 ·rw[List.length_append,List.length_singleton,AN]
  have e1:AN (fun i=>AG (obj (l++[o]) i) (if i<l.length then lvs i else lv)) l.length=AN (fun i=>AG (obj l i) (lvs i)) l.length:=
   Bi fun i hi=>by rw[Gi hi,if_pos hi]
  rw[e1,Gh];simp only[Nat.lt_irrefl,if_false];exact hown
 ·rw[List.length_append,List.length_singleton] at hi
  by_cases hl:i<l.length
  ·simp only[Gi hl,if_pos hl]
   exact((h3 i hl).upd hu (fun b hb h=>(h1 b hb).2 h)).weaken fun _ h=>.inl h
  ·have:i=l.length:=by omega
   subst this;simp only[Gh,if_neg hl];exact(ho.upd hu (fun b hb h=>(h2 b hb).2 h)).weaken fun _ h=>.inr h
theorem FZ {B:Nat} {w:World} {v:Value} {l:List Obj} {p:Obj} {lv:Value} {S S2:Nat→Prop} (ty:TypeId) (hG:Dd S B w v l) (hp:Bu S2 w p lv)
  (h2:∀b,S2 b→b<w.heap.size∧v.ownBlock≠some b) (hl:(l.length+1)*56≤140737488351232) (hB:B≤w.heap.size):
  ∃a c x,(Builtin.append_ #[25,25] ty #[v,.slice (some ⟨w.heap.size,0,none⟩) 1 1]).run Tryz.prog (w.alloc (.cells #[.int .i64 p.id,.int .i64 p.kind,lv,.string p.text] 96))=.ok (.slice a (l.length+1) c) x∧
   Dd (fun b=>S b∨S2 b) B x (.slice a (l.length+1) c) (l++[p])∧AK (fun b=>v.ownBlock=some b) w x∧((Value.slice a (l.length+1) c).ownBlock=v.ownBlock∨∃k,(Value.slice a (l.length+1) c).ownBlock=some k∧w.heap.size≤k):=by
 obtain⟨lvs,h1,hown,h3⟩:=hG;obtain⟨i0,hi,hz0,hz1,hz2⟩:=info_parts Tryz.infoObj;obtain⟨g,c,x,hr,ho,hg,hor,hlt⟩:=run_append_lies (P:=Tryz.prog) (w.alloc (.cells #[.int .i64 p.id,.int .i64 p.kind,lv,.string p.text] 96)) 25 ty B 96 i0 _ 4 56 Tryz.underlying25 hi hz0 hz1 hz2 rfl (by omega) v l.length _ (hown.alloc _) ⟨w.heap.size,0,none⟩ 1 1 (AG p lv) rfl
  (World.news_of_block (cs:=#[.int .i64 p.id,.int .i64 p.kind,lv,.string p.text]) (t:=96) (fr:=(0,0)) (heap_alloc_new w _)) (JF hp) (by omega) (by unfold maxLen;omega) (by omega) (by simp;omega) _ rfl
 have hat:(Value.slice (some ⟨g,0,none⟩) (l.length+1) c).ownBlock=v.ownBlock∨(Value.slice (some ⟨g,0,none⟩) (l.length+1) c).ownBlock=some (w.heap.size+1):=by
  rcases hor with h|h
  ·exact .inl h.symm
  ·right;rw[h];simp[Value.ownBlock]
 refine⟨_,c,x,hr,Dd.push h1 h3 hp h2 ho hg hat,AK.grown ((AK.refl _ _).alloc _) hg (fun k hk _=>hk),?_⟩;rcases hat with h|h
 ·exact .inl h
 ·exact .inr ⟨_,h,by omega⟩
def JN (B J:Nat) (w:World) (l:List Obj):Prop:=
 ∃v S,Dd S B w v l∧(∀b,S b→b≠J∧B≤b)∧v.ownBlock≠some J∧w.heap[J]?=some (.cells #[v] 25 (0,0))
theorem JN.below {B J:Nat} {w w':World} {l:List Obj} (h:JN B J w l) (hb:Below w.heap.size w w'):JN B J w' l:=by
 obtain⟨v,S,h1,h2,h3,h4⟩:=h;exact⟨v,S,h1.below hb,h2,h3,(hb.block _ (lt_of_block h4)).trans h4⟩
theorem JN.lt {B J:Nat} {w:World} {l:List Obj} (h:JN B J w l):J<w.heap.size:=let⟨_,_,_,_,_,h4⟩:=h;lt_of_block h4
theorem Vz (w:World) (B:Nat):JN B w.heap.size (w.alloc (.cells #[.slice none 0 0] 25)) []:=
 ⟨.slice none 0 0,fun _=>False,⟨fun _=>.nilFunc,fun _ h=>h.elim,World.ownsRow_nil _ _ _ _,fun i hi=>by simp at hi⟩,fun _ h=>h.elim,by simp[Value.ownBlock],heap_alloc_new w _⟩
theorem Nb {B J:Nat} {w x0 xo w9:World} {v v':Value} {m:List Obj} {S:Nat→Prop} (hB:B≤J) (hJw:J<w.heap.size) (hSJ:∀b,S b→b≠J∧B≤b) (hvJ:v.ownBlock≠some J) (hcJ:w.heap[J]?=some (.cells #[v] 25 (0,0)))
  (hb0:Below w.heap.size w x0) (hb:Below w.heap.size w xo) (hvB:∀g,v.ownBlock=some g→B≤g) (hG:Dd (fun b=>S b∨(x0.heap.size≤b∧b<xo.heap.size)) B w9 v' m) (hu:AK (fun b=>v.ownBlock=some b) xo w9) (hat:v'.ownBlock=v.ownBlock∨∃k,v'.ownBlock=some k∧xo.heap.size≤k):
  JN B J (w9.setCell ⟨J,0,none⟩ v') m∧Below B w (w9.setCell ⟨J,0,none⟩ v'):=by
 have h0:=hb0.size;have h1:=hb.size;have hJ9:w9.heap[J]?=some (.cells #[v] 25 (0,0)):=hu.blk ((hb.block _ hJw).trans hcJ) hvJ;have hu2:=su J 0 w9 v';have hv':v'.ownBlock≠some J:=by
  rcases hat with h|⟨k,h,hk⟩
  ·rw[h];exact hvJ
  ·rw[h];intro e;cases e;omega
 refine⟨⟨v',_,hG.upd hu2 (fun b hb' e=>?_) (fun g hg e=>hv' (by rw[hg,e])),fun b hb'=>?_,hv',Ah (j:=0) hJ9 v'⟩,?_⟩
 ·rcases hb' with h|h
  ·exact(hSJ b h).1 e
  ·omega
 ·rcases hb' with h|h
  ·exact hSJ b h
  ·exact⟨by omega,by omega⟩
 ·exact(hb.mono (by omega)).trans ((hu.below (by omega) hvB).trans (hu2.below (B:=B) (by have:=hu.size;omega) (fun b e=>by omega)))
def Sb (m:List Obj) (o:Obj):Int:=if CO m o.id=true∧BG o (obj m (lo m o.id))=false then 6 else 0
def Oa (l m:List Obj) (o:Obj):List Obj:=if CO m o.id=true then l else l++[o]
theorem Ya {B J T:Nat} {l m:List Obj} {w:World} (hJ:JN B J w l) (tv:Value) (hT:w.heap[T]?=some (.cells #[tv] 25 (0,0))) (S1:Nat→Prop) (hm:Ai S1 w tv m) (hr:AD m) (o:Obj) (lv:Value) (S2:Nat→Prop) (ho:Bu S2 w o lv) (hl:l.length≤900) (hB:B≤J):
  Calls Tryz.prog 105 #[.agg #[.int .i64 o.id,.int .i64 o.kind,lv,.string o.text],.pointer (some ⟨T,0,none⟩),.pointer (some ⟨J,0,none⟩)] w
   fun e w'=>e=.returned (.int .i64 (Sb m o))∧Below B w w'∧JN B J w' (Oa l m o):=by
 have hJ':=hJ;obtain⟨v,S,hG,hSJ,hvJ,hcJ⟩:=hJ;obtain⟨va,vc,rfl⟩:=hG.gath.shape;obtain⟨⟨lp,lc⟩,rfl⟩:=ho.1.shape;obtain⟨ta,tc,rfl⟩:=hm.vshape;have hJw:=lt_of_block hcJ;have hTw:=lt_of_block hT;obtain⟨Q,hQ,hQ1,y0,y1,y2,y3⟩:=Ev w (.int .i64 o.id) (.int .i64 o.kind) (.slice lp o.links.length lc) (.string o.text) 96;have hQb:=hQ.below;have hQn:=hQ.next
 have hQg:=BI hQ;have cJ:=fun x (hx:In Q x)=>Aa (w:=x) (j:=0) ((hQb x hx).block _ hJw|>.trans hcJ) rfl
 have cT:=fun x (hx:In Q x)=>Aa (w:=x) (j:=0) ((hQb x hx).block _ hTw|>.trans hT) rfl
 have Hat:=zh (fun x (hx:In Q x)=>LK m _ _ o.id x (hm.below (hQb _ hx)) hr);cases hat:CO m o.id
 ·have HjL:=zh (show Oa l m o=l++[o] by unfold Oa;rw[if_neg (by simp[hat])])
  have HjE:=zh (show Sb m o=0 by unfold Sb;simp[hat]);rw[HjL.out,HjE.out];rw[hat] at Hat;have Ho:=zh ho;have HG:=zh hG;have HSJ:=zh hSJ;have HcJ:=zh hcJ;clear hJ' hr ho hG hSJ hcJ hm hT;generalize lo m o.id=k at*
  go_enter Tryz.func105, Tryz.ntmps105
  go_wp2_with fail;refine(Hat.out _ hQ1).mono ?_;rintro e w5 ⟨rfl,hb5⟩;have hQ2:=hQn _ _ hQ1 hb5;clear hb5;go_wp2_with fail;have hQd:=hQ.drew _ hQ2;refine Du (by kernel_rfl) rfl ?_;generalize w5.drew=x0 at*;have HQn:=zh hQn;have HQa:=zh hQ.alloc;have hQ0:=hQd;clear hQd;have z0:=y0 _ hQ0;have z1:=y1 _ hQ0;have z2:=y2 _ hQ0;have z3:=y3 _ hQ0;have zJ:=cJ _ hQ0;have hown:=QF o _ S2 x0 (Ho.out.below (hQb _ hQ0));refine ET 0 1 (by kernel_rfl) (Eo rfl (by rfl) (fun K hK=>?_)) (Eo rfl (by rfl) (fun K hK=>?_))
  ·go_wp2_with fail
   refine tk1 1 (fun K hK=>?_);go_wp2_with fail;refine tk1 2 (fun K hK=>?_);go_wp2_with fail;refine hown.mono ?_;rintro e xo ⟨lo,rfl,hoo,hbo⟩;obtain⟨⟨lop,loc⟩,rfl⟩:=hoo.1.shape;have hQo:=HQn.out _ _ hQ0 hbo;have zJo:=cJ _ hQo;have zJo2:=cJ _ (HQa.out _ (.cells #[.int .i64 o.id,.int .i64 o.kind,.slice lop o.links.length loc,.string o.text] 96) hQo);go_wp2_with fail;refine tk1 3 (fun K hK=>?_);go_wp2_with fail;obtain⟨va9,vc9,w9,hr9,hG9,hu9,hat9⟩:=FZ 25 (HG.out.below (hQb _ hQo)) hoo.lt (fun b hb=>⟨hb.2,fun e=>by have h1:=(HG.out.gath.block e).2;have h2:=(hQb _ hQ0).size;omega⟩) (by omega) (show B≤xo.heap.size by have:=(hQb _ hQo).size;omega);have Hend:=zh (Nb hB hJw HSJ.out hvJ HcJ.out (hQb _ hQ0) (hQb _ hQo) (fun g hg=>(HG.out.gath.block hg).1) hG9 hu9 hat9);have hJ9:w9.heap[J]?=some (.cells #[_] 25 (0,0)):=hu9.blk (((hQb _ hQo).block _ hJw).trans HcJ.out) hvJ;have cJ9:=Aa (j:=0) hJ9 rfl;have fJ9:=Ad (j:=0) hJ9;clear hG9 hu9 hat9 hJ9;refine tk1 4 (fun K hK=>?_);refine Cm (.tmp 17) (.tmp 20) 25 (by rfl) _ _ _ (by rfl) (by rfl) hr9 ?_;refine hK _ _ ?_;clear hr9;refine tk1 5 (fun K hK=>?_);go_wp2_with fail;refine BN (by kernel_rfl) ?_;go_wp2_with fail;go_ret;exact⟨rfl,Hend.out.2,Hend.out.1⟩
  ·go_wp2_with fail
   refine ET 0 2 (by kernel_rfl) (Eo rfl (by rfl) (fun K hK=>?_)) (Eo rfl (by rfl) (fun K hK=>?_))
   ·go_wp2_with fail
    refine tk1 2 (fun K hK=>?_);go_wp2_with fail;refine hown.mono ?_;rintro e xo ⟨lo,rfl,hoo,hbo⟩;obtain⟨⟨lop,loc⟩,rfl⟩:=hoo.1.shape;have hQo:=HQn.out _ _ hQ0 hbo;have zJo:=cJ _ hQo;have zJo2:=cJ _ (HQa.out _ (.cells #[.int .i64 o.id,.int .i64 o.kind,.slice lop o.links.length loc,.string o.text] 96) hQo);go_wp2_with fail;refine tk1 3 (fun K hK=>?_);go_wp2_with fail;obtain⟨va9,vc9,w9,hr9,hG9,hu9,hat9⟩:=FZ 25 (HG.out.below (hQb _ hQo)) hoo.lt (fun b hb=>⟨hb.2,fun e=>by have h1:=(HG.out.gath.block e).2;have h2:=(hQb _ hQ0).size;omega⟩) (by omega) (show B≤xo.heap.size by have:=(hQb _ hQo).size;omega);have Hend:=zh (Nb hB hJw HSJ.out hvJ HcJ.out (hQb _ hQ0) (hQb _ hQo) (fun g hg=>(HG.out.gath.block hg).1) hG9 hu9 hat9);have hJ9:w9.heap[J]?=some (.cells #[_] 25 (0,0)):=hu9.blk (((hQb _ hQo).block _ hJw).trans HcJ.out) hvJ;have cJ9:=Aa (j:=0) hJ9 rfl;have fJ9:=Ad (j:=0) hJ9;clear hG9 hu9 hat9 hJ9;refine tk1 4 (fun K hK=>?_);refine Cm (.tmp 17) (.tmp 20) 25 (by rfl) _ _ _ (by rfl) (by rfl) hr9 ?_;refine hK _ _ ?_;clear hr9;refine tk1 5 (fun K hK=>?_);go_wp2_with fail;refine BN (by kernel_rfl) ?_;go_wp2_with fail;go_ret;exact⟨rfl,Hend.out.2,Hend.out.1⟩
   ·go_wp2_with fail
    refine hown.mono ?_;rintro e xo ⟨lo,rfl,hoo,hbo⟩;obtain⟨⟨lop,loc⟩,rfl⟩:=hoo.1.shape;have hQo:=HQn.out _ _ hQ0 hbo;have zJo:=cJ _ hQo;have zJo2:=cJ _ (HQa.out _ (.cells #[.int .i64 o.id,.int .i64 o.kind,.slice lop o.links.length loc,.string o.text] 96) hQo);go_wp2_with fail;refine ET 0 3 (by kernel_rfl) (Eo rfl (by rfl) (fun K hK=>?_)) (Eo rfl (by rfl) (fun K hK=>?_))
    ·go_wp2_with fail
     refine tk1 3 (fun K hK=>?_);go_wp2_with fail;obtain⟨va9,vc9,w9,hr9,hG9,hu9,hat9⟩:=FZ 25 (HG.out.below (hQb _ hQo)) hoo.lt (fun b hb=>⟨hb.2,fun e=>by have h1:=(HG.out.gath.block e).2;have h2:=(hQb _ hQ0).size;omega⟩) (by omega) (show B≤xo.heap.size by have:=(hQb _ hQo).size;omega);have Hend:=zh (Nb hB hJw HSJ.out hvJ HcJ.out (hQb _ hQ0) (hQb _ hQo) (fun g hg=>(HG.out.gath.block hg).1) hG9 hu9 hat9);have hJ9:w9.heap[J]?=some (.cells #[_] 25 (0,0)):=hu9.blk (((hQb _ hQo).block _ hJw).trans HcJ.out) hvJ;have cJ9:=Aa (j:=0) hJ9 rfl;have fJ9:=Ad (j:=0) hJ9;clear hG9 hu9 hat9 hJ9;refine tk1 4 (fun K hK=>?_);refine Cm (.tmp 17) (.tmp 20) 25 (by rfl) _ _ _ (by rfl) (by rfl) hr9 ?_;refine hK _ _ ?_;clear hr9;refine tk1 5 (fun K hK=>?_);go_wp2_with fail;refine BN (by kernel_rfl) ?_;go_wp2_with fail;go_ret;exact⟨rfl,Hend.out.2,Hend.out.1⟩
    ·go_wp2_with fail
     refine tk1 0 (fun K hK=>?_);go_wp2_with fail;obtain⟨va9,vc9,w9,hr9,hG9,hu9,hat9⟩:=FZ 25 (HG.out.below (hQb _ hQo)) hoo.lt (fun b hb=>⟨hb.2,fun e=>by have h1:=(HG.out.gath.block e).2;have h2:=(hQb _ hQ0).size;omega⟩) (by omega) (show B≤xo.heap.size by have:=(hQb _ hQo).size;omega);have Hend:=zh (Nb hB hJw HSJ.out hvJ HcJ.out (hQb _ hQ0) (hQb _ hQo) (fun g hg=>(HG.out.gath.block hg).1) hG9 hu9 hat9);have hJ9:w9.heap[J]?=some (.cells #[_] 25 (0,0)):=hu9.blk (((hQb _ hQo).block _ hJw).trans HcJ.out) hvJ;have cJ9:=Aa (j:=0) hJ9 rfl;have fJ9:=Ad (j:=0) hJ9;clear hG9 hu9 hat9 hJ9;refine tk1 4 (fun K hK=>?_);refine Cm (.tmp 17) (.tmp 20) 25 (by rfl) _ _ _ (by rfl) (by rfl) hr9 ?_;refine hK _ _ ?_;clear hr9;refine tk1 5 (fun K hK=>?_);go_wp2_with fail;refine BN (by kernel_rfl) ?_;go_wp2_with fail;go_ret;exact⟨rfl,Hend.out.2,Hend.out.1⟩
 ·have HjL:=zh (show Oa l m o=l by unfold Oa;rw[if_pos hat])
  have hk:lo m o.id<m.length:=by unfold CO at hat;simp at hat;exact hat.1
  have HjE:=zh (show Sb m o=if BG o (obj m (lo m o.id))=false then 6 else 0 by unfold Sb;simp[hat]);rw[HjL.out];obtain⟨a5,n5,c5,la5,ln5,lc5,HN5,e5,_,_,_,h45,h55⟩:=hm.open;cases e5;obtain⟨b,off,rfl,_,k0,k1,k2,k3⟩:=h45 (by omega);have Hs:=zh (fun x (hx:In Q x)=>Sz o (obj m (lo m o.id)) _ _ _ _ x (ho.below (hQb _ hx)) ((h55 _ hk).below (hQb _ hx)));rw[hat] at Hat;generalize lo m o.id=k at*;have x0:=fun x (hx:In Q x)=>k0 k x hk (hQb x hx)
  have x1:=fun x (hx:In Q x)=>k1 k x hk (hQb x hx)
  have x2:=fun x (hx:In Q x)=>k2 k x hk (hQb x hx)
  have x3:=fun x (hx:In Q x)=>k3 k x hk (hQb x hx)
  have HJ:=zh (fun x (hx:In Q x)=>And.intro ((hQb x hx).mono (show B≤w.heap.size by omega)) (hJ'.below (hQb x hx)));have hi1:=zk k;have hi2:(k:Int)<(m.length:Int):=by omega
  clear k0 k1 k2 k3 h45 h55 hG hSJ hvJ hcJ hJ' hr HN5 ho hT hm;rw[HjE.out];have Hend:=zh (fun x (hx:In Q x)=>HJ.out x hx);cases hs:BG o (obj m k)
  case' false=>rw[hs] at Hs
  case' true=>rw[hs] at Hs
  all_goals
   go_enter Tryz.func105, Tryz.ntmps105
   go_wp2_with fail;refine(Hat.out _ hQ1).mono ?_;rintro e w5 ⟨rfl,hb5⟩;have hQ2:=hQn _ _ hQ1 hb5;clear hb5;go_wp2_with fail;refine wp_region_quiet_below (by kernel_rfl) (by kernel_rfl) ?_
   repeat (quiet_step (exact Calls.regrown_of (Hs.out _ (hQg _ _ _ hQ2))))
   refine wpQuiet_nil ?_;intro _ hw';obtain⟨⟨dq,osq⟩,hw''⟩:=hw';subst hw'';have hQ3:=hQg _ dq osq hQ2;generalize Go.Sort.grow (redrawn _ dq) osq=w6 at*;go_wp2_with fail;go_ret;exact⟨rfl,(Hend.out _ hQ3).1,(Hend.out _ hQ3).2⟩
variable [Ghost]
structure ZA (g:Nat) (c1 c2:Value) (l:List Obj) (w0:World) (I:Nat→World→Prop) (err:Nat→Int):Prop where
 enter:∀args w,(callFunc g args).run Tryz.prog w=.ok (.enter g args) w
 below:∀k x,I k x→Below w0.heap.size w0 x
 next:∀k x y,I k x→Below x.heap.size x y→I k y
 step:∀k x (lv:Value) (S:Nat→Prop),k<l.length→An err k=0→I k x→Bu S x (obj l k) lv→
  Calls Tryz.prog g #[.agg #[.int .i64 (obj l k).id,.int .i64 (obj l k).kind,lv,.string (obj l k).text],c1,c2] x fun e w'=>e=.returned (.int .i64 (err k))∧Below w0.heap.size w0 w'∧(err k=0→I (k+1) w')
theorem UZ {g:Nat} {c1 c2:Value} {l:List Obj} {w0 w:World} {I:Nat→World→Prop} {err:Nat→Int} (hd:ZA g c1 c2 l w0 I err) (lv:Value) (S:Nat→Prop) (h:Ai S w0 lv l) (h0:I 0 w):
  Calls Tryz.prog 93 #[lv,.func (.func g) #[] #[c1,c2]] w fun e w'=>e=.returned (.int .i64 (An err l.length))∧Below w0.heap.size w0 w'∧(An err l.length=0→I l.length w'):=by
 have h':=h;obtain⟨a,n,cap,la,ln,lc,HN,rfl,h1,h2,h3,h4,h5⟩:=h.open;have eg:=hd.enter;have Hd:=zh hd;have Hn:=zh HN.out.1;rw[←Hn.out];clear h hd
 go_enter Tryz.func93, Tryz.ntmps93
 go_wp2_with fail;go_loopw [10] (fun i wr=>∃k:Nat,k≤n∧i=.int .i64 k∧Hid (An err k=0)∧Hid (I k wr)) (fun i _=>n-(intOf i).toNat)
 case atStart=>exact⟨0,by omega,rfl,rfl,h0⟩
 obtain⟨k,hk,rfl,Hs,HI⟩:=hrel;clear h0;have hRw:=Hd.out.below _ _ HI.out;by_cases hlt:k<n
 ·obtain⟨b,off,rfl,hb,k0,k1,k2,k3⟩:=h4 (by omega)
  have x0:=k0 k wr hlt hRw;have x1:=k1 k wr hlt hRw;have x2:=k2 k wr hlt hRw;have x3:=k3 k wr hlt hRw;obtain⟨Q,hQ,hQ1,y0,y1,y2,y3⟩:=Ev wr (.int .i64 (obj l k).id) (.int .i64 (obj l k).kind) (.slice (la k) (ln k) (lc k)) (.string (obj l k).text) 96;have Hc:=zh (Hd.out.step k _ _ S (by rw[←Hn.out];exact hlt) Hs.out (Hd.out.next _ _ _ HI.out (hQ.below _ hQ1)) ((h5 k hlt).below (Al hRw (hQ.below _ hQ1))));have z0:=y0 _ hQ1;have z1:=y1 _ hQ1;have z2:=y2 _ hQ1;have z3:=y3 _ hQ1;have hi1:=zk k;have hi2:(k:Int)<(n:Int):=by omega
  clear k0 k1 k2 k3 h4 h5 y0 y1 y2 y3;by_cases he:err k=0
  ·have hq:(err k !=0)=false:=by simpa using he
   have Hs2:=zh (show An err (k+1)=0 from Ay Hs.out he);have He:=zh he;clear he;go_wp2_with fail;refine Hc.out.mono ?_;rintro e w' ⟨rfl,hb2,hI2⟩;have HI2:=zh (hI2 He.out);clear hI2 hb2;go_wp2_with fail;go_roundw
   case rel=>exact⟨k+1,by omega,by go_num,Hs2,HI2⟩
   case measure=>simp[intOf];omega
  ·have hq:(err k !=0)=true:=by simpa using he
   have Hs2:=zh (show An err n=err k from BX Hs.out he hlt);have He:=zh he;clear he;go_wp2_with fail;refine Hc.out.mono ?_;rintro e w' ⟨rfl,hb2,hI2⟩;clear hI2;go_wp2_with fail;go_ret;exact⟨Af Hs2.out.symm,hb2,fun h=>absurd (Hs2.out.symm.trans h) He.out⟩
 ·obtain rfl:k=n:=by omega
  go_wp2_with fail;go_ret;exact⟨Af Hs.out.symm,hRw,fun _=>HI.out⟩
theorem Sc {l m:List Obj} {k:Nat} (hk:k<l.length):Dh l m (k+1)=Oa (Dh l m k) m (obj l k):=by
 unfold Oa;by_cases h:CO m (obj l k).id=true
 ·rw[if_pos h,Lc hk h]
 ·rw[if_neg h,Oc hk (by simpa using h)]
theorem Vt {l m:List Obj} (hr:AD m) (hl:l.length≤800) {w0:World} {J T:Nat} (hJ:w0.heap.size≤J) {tv:Value} (hT:w0.heap[T]?=some (.cells #[tv] 25 (0,0))) {S1:Nat→Prop} (hm:Ai S1 w0 tv m):
  ZA 105 (.pointer (some ⟨T,0,none⟩)) (.pointer (some ⟨J,0,none⟩)) l w0 (fun k x=>Below w0.heap.size w0 x∧JN w0.heap.size J x (Dh l m k)) (Ef l m) where
 enter:=fun _ _=>rfl
 below:=fun k x h=>h.1
 next:=fun k x y h hb=>⟨Al h.1 hb,h.2.below hb⟩
 step:=fun k x lv S hk hs hI ho=>by
  have h1:=Ya hI.2 tv ((hI.1.block _ (lt_of_block hT)).trans hT) S1 (hm.below hI.1) hr (obj l k) lv S ho (by have:=JZ l m k;omega) hJ;refine h1.mono ?_;rintro e w' ⟨rfl,hb,hO⟩;have hb2:Below w0.heap.size w0 w':=hI.1.trans hb;exact⟨rfl,hb2,fun _=>⟨hb2,by rw[Sc hk];exact hO⟩⟩
theorem Qo (l m:List Obj) (lv mv:Value) (S S':Nat→Prop) (w:World) (h:Ai S w lv l) (hm:Ai S' w mv m) (hr:AD m) (hl:l.length≤800):
  Calls Tryz.prog 75 #[lv,mv] w fun e w'=>GG w w' e (CE l m) (Es l m):=by
 have hmf:∀(fn:Fn) (first cap:Array Value) (w:World),(Instr.makeFunc fn first cap).run Tryz.prog w=.ok (.func fn first cap) w:=fun _ _ _ _=>rfl
 obtain⟨la,lc,rfl⟩:=h.vshape;obtain⟨ma,mc,rfl⟩:=hm.vshape;obtain⟨w1,hw1⟩:∃w1:World,w1=w.alloc (.cells #[.slice ma m.length mc] 25):=⟨_,rfl⟩;have hb1:Below w.heap.size w w1:=by rw[hw1];exact(Below.refl _ _).alloc (Nat.le_refl _) _
 have hT:w1.heap[w.heap.size]?=some (.cells #[.slice ma m.length mc] 25 (0,0)):=by rw[hw1];exact heap_alloc_new w _
 have hz:w1.heap.size=w.heap.size+1:=by rw[hw1];simp
 have HE:=zh (UZ (Vt hr hl (J:=w.heap.size+1) (Nat.le_of_eq hz) hT (hm.below hb1)) (.slice la l.length lc) S (h.below hb1) (w:=w1.alloc (.cells #[.slice none 0 0] 25)) ⟨(Below.refl _ _).alloc (Nat.le_refl _) _,by rw[Sd,←hz];exact Vz w1 _⟩);have HwE:=zh (show Es l m=An (Ef l m) l.length from rfl);have HwL:=zh (show CE l m=if Es l m=0 then Jn l m else[] from rfl);have Hend:=zh (Ob l m);have hml:=Iq l m;have HJl:=zh (show(Jn l m).length*56≤140737488351232 by omega);have Hb1:=zh hb1;clear h hm hr hml hT hb1;rw[HwL.out];generalize Es l m=se at*;rw[←HwE.out] at HE;clear HwE HwL;by_cases hs:se=0
 ·subst hs
  rw[if_pos rfl];have Hw1:=zh hw1
  go_enter Tryz.func75, Tryz.ntmps75
  go_wp2_with fail;rw[←Hw1.out];refine HE.out.mono ?_;rintro e w3 ⟨rfl,hb3,hI3⟩;obtain⟨_,v3,S3,hG3,hS3,_,hc3⟩:=hI3 (by simp);rw[Hend.out] at hG3;obtain⟨a3,c3,rfl⟩:=hG3.gath.shape;have hst:=zh ((El.store ⟨S3,hG3,fun b hb=>(hS3 b hb).2⟩ HJl.out).weaken (S':=fun b=>w.heap.size≤b) fun b hb=>by omega);have hb4:Below w.heap.size w w3:=Hb1.out.trans (hb3.mono (by omega));have j0:=Aa (j:=0) hc3 rfl;have Hb4:=zh hb4;clear hb4 hb3 hI3 hG3 hS3 hc3;go_wp2_with fail;go_ret2;exact⟨_,rfl,hst.out,Hb4.out⟩
 ·have hq:(se !=0)=true:=by simpa using hs
  rw[if_neg hs];have Hw1:=zh hw1;clear hs
  go_enter Tryz.func75, Tryz.ntmps75
  go_wp2_with fail;rw[←Hw1.out];refine HE.out.mono ?_;rintro e w3 ⟨rfl,hb3,hI3⟩;have hb4:Below w.heap.size w w3:=Hb1.out.trans (hb3.mono (by omega));have Hb4:=zh hb4;clear hb4 hb3 hI3;go_wp2_with fail;go_ret2;exact⟨_,rfl,Ai.nil _ _ _ _ (by omega),Hb4.out⟩
theorem Rt (l m:List Obj) (lv mv:Value) (S S':Nat→Prop) (w:World) (h:Ai S w lv l) (hm:Ai S' w mv m) (hr:AD m) (hl:l.length≤800):
  Calls Tryz.prog 75 #[lv,mv] w fun e w'=>LD w w' e (CE l m) (Es l m):=(Qo l m lv mv S S' w h hm hr hl).mono fun _ _ h=>h.e
variable [Ghost]
theorem US (l m:List Obj) (lv mv:Value) (S S':Nat→Prop) (w:World) (h:Ai S w lv l) (hm:Ai S' w mv m) (hr:AD m) (hl:l.length≤800):
  Calls Tryz.prog 59 #[lv,mv] w fun e w'=>GF S w w' e (CE l m) (Es l m):=by
 obtain⟨a,n,cap,la,ln,lc,HN,rfl,h1,h2,h3,h4,h5⟩:=h.lt.open;obtain⟨ma,mc,rfl⟩:=hm.vshape;have Hn:=zh HN.out.1;have HwE:=zh (show Es l m=An (Ef l m) n by rw[Hn.out];rfl);have HwL:=zh (show CE l m=if Es l m=0 then Dh l m n else[] by rw[Hn.out,Ob];rfl);have hn800:n≤800:=by rw[Hn.out];exact hl
 have Hjl:=zh (JZ l m);have Hm:=zh hm;have Hr:=zh hr;have H5:=zh h5;clear h hm hr hl h5 HN
 go_enter Tryz.func59, Tryz.ntmps59
 go_wp2_with fail;go_loopw [6,7] (fun v i wr=>∃k:Nat,k≤n∧i=.int .i64 k∧Hid (An (Ef l m) k=0)∧Hid (Dc S w.heap.size wr v (Dh l m k)∧Below w.heap.size w wr)) (fun _ i _=>n-(intOf i).toNat)
 case atStart=>exact⟨0,by omega,rfl,rfl,⟨Dc.nil _ _ _,Below.refl _ _⟩⟩
 obtain⟨k,hk,rfl,Hs,HX⟩:=hrel;obtain⟨wo,rfl⟩:∃wo:World,wo=wr:=⟨_,rfl⟩;obtain⟨va,vc,hvs⟩:=HX.out.1.shape;subst hvs;have hjs:=Hjl.out k;by_cases hlt:k<n
 ·obtain⟨b,off,rfl,hb,k0,k1,k2,k3⟩:=h4 (by omega)
  have x0:=k0 k wo hlt HX.out.2;have x1:=k1 k wo hlt HX.out.2;have x2:=k2 k wo hlt HX.out.2;have x3:=k3 k wo hlt HX.out.2;have Hst:=zh (Hm.out.below HX.out.2);have hat0:=Hr.out.at_ (obj l k).id;have hHat:=DQ m _ _ (obj l k).id wo Hst.out;have hi1:=zk k;have hi2:(k:Int)<(n:Int):=by omega
  have hkl:k<l.length:=by have:=Hn.out;omega
  have Ho:=zh (H5.out k hlt);cases hat:CO m (obj l k).id
  ·have HL:=zh (Oc hkl hat)
   have HE:=zh (Mw (l:=l) (m:=m) (k:=k) hat);rw[hat] at hat0;rw[show Kn m (obj l k).id=-1 from hat0] at hHat;have HHat:=zh hHat;clear hHat hat0 hat;go_wp2_with fail;refine HHat.out.mono ?_;rintro e w' ⟨rfl,rfl⟩;go_wp2_with fail;go_quiet (fail);have hbN:Below wo.heap.size wo (wo.drewN nq):=CA wo _ nq (Below.refl _ _);have HB2:=zh (HX.out.2.trans (hbN.mono HX.out.2.size));have HG2:=zh (HX.out.1.below hbN);have y0:=k0 k _ hlt HB2.out;have y1:=k1 k _ hlt HB2.out;have y2:=k2 k _ hlt HB2.out;have y3:=k3 k _ hlt HB2.out;have Ho2:=zh (Ho.out.below HB2.out);have hsz:=HB2.out.size;have Hsep:=zh (show∀b,(S b∧b<w.heap.size)→b<(wo.drewN nq).heap.size∧(Value.slice va (Dh l m k).length vc).ownBlock≠some b from
    fun b hb=>⟨by omega,fun e=>by have:=(HG2.out.block e).1;omega⟩)
   clear x0 x1 x2 x3 k0 k1 k2 k3 h4;generalize wo.drewN nq=w2 at*;clear hbN;obtain⟨S1,hGS1,hSA1⟩:=HG2.out;go_wp2_with (at_builtin;refine Dq rfl _ _ rfl hGS1 Ho2.out rfl Hsep.out (by omega) hsz rfl rfl (by first|rfl|simp) ?_);intro v' w5 hG5 hu5;have HB5:=zh (HB2.out.trans (hu5.below (B:=w.heap.size) hsz (fun b hb=>(HG2.out.block hb).1)));have HG5:=zh (show Dc S w.heap.size w5 v' (Dh l m (k+1)) by rw[HL.out];exact⟨_,hG5,fun b hb=>hb.elim (hSA1 b) (fun h=>h.1)⟩);obtain⟨va',vc',hvs'⟩:=HG5.out.shape;subst hvs';clear hG5 hu5 y0 y1 y2 y3 HG2 Ho2 Hsep HB2 HHat;go_wp2_with fail;go_roundw
   case rel=>exact⟨k+1,by omega,by go_num,Ay Hs.out HE.out,⟨HG5.out,HB5.out⟩⟩
   case measure=>simp[intOf];omega
  ·have HL:=zh (Lc hkl hat)
   have hk':lo m (obj l k).id<m.length:=(by unfold CO at hat;simp at hat;exact hat.1);have HE0:=zh (fun h=>Lb (l:=l) (m:=m) (k:=k) h);have HE6:=zh (fun h=>JY (l:=l) (m:=m) (k:=k) hat h);rw[hat] at hat0;rw[show Kn m (obj l k).id=(lo m (obj l k).id:Int) from hat0] at hHat;have HHat:=zh hHat;clear hHat hat0 hat;generalize lo m (obj l k).id=q at*;obtain⟨R,hR,hR1,_⟩:=Av wo;obtain⟨a5,n5,c5,la5,ln5,lc5,HN5,e5,_,_,_,h45,h55⟩:=Hst.out.open;cases e5;obtain⟨b5,off5,rfl,_,z0,z1,z2,z3⟩:=h45 (by omega);have HS:=zh (fun x (hx:In R x)=>FS (obj l k) (obj m q) _ _ _ _ x (Ho.out.below (HX.out.2.trans ((hR.below _ hx).mono HX.out.2.size))) ((h55 q hk').below (hR.below _ hx)));have y0:=fun x (hx:In R x)=>k0 k x hlt (HX.out.2.trans ((hR.below _ hx).mono HX.out.2.size))
   have y1:=fun x (hx:In R x)=>k1 k x hlt (HX.out.2.trans ((hR.below _ hx).mono HX.out.2.size))
   have y2:=fun x (hx:In R x)=>k2 k x hlt (HX.out.2.trans ((hR.below _ hx).mono HX.out.2.size))
   have y3:=fun x (hx:In R x)=>k3 k x hlt (HX.out.2.trans ((hR.below _ hx).mono HX.out.2.size))
   have r0:=fun x (hx:In R x)=>z0 q x hk' (hR.below _ hx)
   have r1:=fun x (hx:In R x)=>z1 q x hk' (hR.below _ hx)
   have r2:=fun x (hx:In R x)=>z2 q x hk' (hR.below _ hx)
   have r3:=fun x (hx:In R x)=>z3 q x hk' (hR.below _ hx)
   have hRg:=BI hR;have hi3:=zk q;have hi4:(q:Int)<(m.length:Int):=by omega
   clear z0 z1 z2 z3 k0 k1 k2 k3 h4 h45 h55 HN5 x0 x1 x2 x3;cases hs:BG (obj l k) (obj m q)
   ·have HE6:=zh (show An (Ef l m) n=6 by rw[BX Hs.out (by rw[HE6.out hs];decide) hlt,HE6.out hs])
    have HEnd:=zh (show Es l m=6∧CE l m=[] from by
     have e1:Es l m=6:=by rw[HwE.out,HE6.out]
     exact⟨e1,by rw[HwL.out,e1];rfl⟩)
    have HB:=zh HX.out.2;rw[hs] at HS;go_wp2_with fail;refine HHat.out.mono ?_;rintro e w' ⟨rfl,rfl⟩;go_wp2_with fail;refine wp_region_quiet_below (by kernel_rfl) (by kernel_rfl) ?_
    repeat (quiet_step (exact Calls.regrown_of (HS.out _ (hRg _ _ _ hR1))))
    refine wpQuiet_nil ?_;intro _ hw';obtain⟨⟨dq,osq⟩,hw''⟩:=hw';subst hw'';have hR2:=hRg _ dq osq hR1;generalize Go.Sort.grow (redrawn _ dq) osq=w5 at*;go_wp2_with fail;go_ret2;rw[HEnd.out.1,HEnd.out.2];exact⟨_,rfl,Ai.nil _ _ _ _ (by omega),HB.out.trans ((hR.below _ hR2).mono HB.out.size)⟩
   ·have HE0:=zh (HE0.out hs)
    rw[hs] at HS;go_wp2_with fail;refine HHat.out.mono ?_;rintro e w' ⟨rfl,rfl⟩;go_wp2_with fail;refine wp_region_quiet_below (by kernel_rfl) (by kernel_rfl) ?_
    repeat (quiet_step (exact Calls.regrown_of (HS.out _ (hRg _ _ _ hR1))))
    refine wpQuiet_nil ?_;intro _ hw';obtain⟨⟨dq,osq⟩,hw''⟩:=hw';subst hw'';have hR2:=hRg _ dq osq hR1;generalize Go.Sort.grow (redrawn _ dq) osq=w5 at*;go_wp2_with fail;have HEnd:=zh (show Dc S w.heap.size w5 _ (Dh l m (k+1))∧Below w.heap.size w w5 from
     ⟨by rw[HL.out];exact HX.out.1.below (hR.below _ hR2),HX.out.2.trans ((hR.below _ hR2).mono HX.out.2.size)⟩)
    go_roundw
    case rel=>exact⟨k+1,by omega,by go_num,Ay Hs.out HE0.out,HEnd.out⟩
    case measure=>simp[intOf];omega
 ·obtain rfl:k=n:=by omega
  have Hst:=zh (HX.out.1.store (by omega));have HB:=zh HX.out.2;have HF:=zh (show CE l m=Dh l m k∧Es l m=0 from⟨by rw[HwL.out,HwE.out,Hs.out,if_pos rfl],by rw[HwE.out,Hs.out]⟩);go_wp2_with fail;go_ret2;rw[HF.out.1,HF.out.2];exact⟨_,rfl,Hst.out,HB.out⟩
end Go.Proofs.YtgbnlmplkealdaaGreatDoor
