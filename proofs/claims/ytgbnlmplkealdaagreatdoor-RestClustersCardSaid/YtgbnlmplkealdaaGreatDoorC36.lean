
/- ClusH: walk of the reference's PushOf. -/
import Derived.Test.YtgbnlmplkealdaaGreatDoorC30
set_option linter.all false
set_option maxHeartbeats 32000000
set_option maxRecDepth 100000
namespace Go.Proofs.YtgbnlmplkealdaaGreatDoor
open Go.RowKit
variable [Ghost]
def vk (l:List Am) (p:BM) (up:Int) (k i:Nat):ByteArray:=if i<k then Cb l p up i else⟨#[]⟩
def SN (l:List Am) (p:BM) (up:Int) (k:Nat):Array Value:=#[.string (vk l p up k 0),.string (vk l p up k 1),.string (vk l p up k 2)]
theorem aC {l:List Am} {p:BM} {up:Int} {k:Nat} (hk:k<3):(SN l p up k)[k]?=some (.string ⟨#[]⟩):=by
 have h:k=0∨k=1∨k=2:=by omega
 rcases h with rfl|rfl|rfl<;>simp[SN,vk]
theorem aD {l:List Am} {p:BM} {up:Int} {k:Nat} (hk:k<3):(SN l p up k).setIfInBounds k (.string (Cb l p up k))=SN l p up (k+1):=by
 have h:k=0∨k=1∨k=2:=by omega
 rcases h with rfl|rfl|rfl<;>simp[SN,vk]
theorem Yr {l:List Am} {p:BM} {up:Int} {k:Nat} (hk:k<3) (h:Cb l p up k=⟨#[]⟩):SN l p up (k+1)=SN l p up k:=by
 have h3:k=0∨k=1∨k=2:=by omega
 rcases h3 with rfl|rfl|rfl<;>simp[SN,vk,h]
theorem aB (l:List Am) (p:BM) (up:Int):SN l p up 3=((Cr l p up).map Value.string).toArray:=by simp[SN,vk,Cr]
theorem Uf {l:List Am} {p:BM} {up:Int} {k:Nat} (hk:k<3):((Cr l p up).map Value.string).toArray[k]?=some (.string (Cb l p up k)):=by
 have h:k=0∨k=1∨k=2:=by omega
 rcases h with rfl|rfl|rfl<;>rfl
theorem Ym {w:World} {l:List ByteArray} {t:TypeId} {N:Nat} (hb:w.heap[N]?=some (.cells (l.map Value.string).toArray t (0,0))) (hl:l.length≤1000) (h:∀s∈l,s.size≤140737488351232):
  De (fun b=>b=N) w (.slice (some ⟨N,0,none⟩) l.length l.length) l:=by
 refine De.mk (Nat.le_refl _) (by omega) (by omega) ⟨rfl,MX.of_block hb⟩ (fun i hi=>?_) h;rw[Nat.zero_add];refine Aa hb ?_;rw[Oz hi];simp[hi]
theorem IB {l:List Am} {p:BM} {up:Int} (hc:BC l) (hp:As p=0) {i:Nat} (hi:i<3):(Cb l p up i).size≤140737488351232:=by rw[←JI hc hp hi];exact OC hc hp i hi
theorem SJ {l:List Am} {p:BM} {up:Int} (hc:BC l) (hp:As p=0):∀s∈Cr l p up,s.size≤140737488351232:=by
 intro s hs;simp only[Cr,List.mem_cons,List.not_mem_nil,or_false] at hs;rcases hs with rfl|rfl|rfl
 ·exact IB hc hp (by omega)
 ·exact IB hc hp (by omega)
 ·exact IB hc hp (by omega)
def Ph (l:List Am) (p:BM) (up late:Int):Nat→List Am
 |0=>l
 |k+1=>if Bo l p up late k=true then(Ph l p up late k).set k (DZ (Ag l k) p) else Ph l p up late k
theorem Iv (l:List Am) (p:BM) (up late:Int):∀k,(Ph l p up late k).length=l.length
 |0=>rfl
 |k+1=>by unfold Ph;split;rw[List.length_set];exact Iv l p up late k;exact Iv l p up late k
theorem VC {l:List Am} {p:BM} {up late:Int} (hl:l.length=3) (hd:Cp l p up late=true):Ph l p up late 3=[BA l p up late 0,BA l p up late 1,BA l p up late 2]:=by
 obtain⟨a,b,c,rfl⟩:=ZH hl;generalize hL:[a,b,c]=L;have e0:Ag L 0=a:=by subst hL;rfl
 have e1:Ag L 1=b:=by subst hL;rfl
 have e2:Ag L 2=c:=by subst hL;rfl
 rw[hL] at hd;have h:Ph L p up late 3=(if Bo L p up late 2=true then(if Bo L p up late 1=true then(if Bo L p up late 0=true then L.set 0 (DZ a p) else L).set 1 (DZ b p) else(if Bo L p up late 0=true then L.set 0 (DZ a p) else L)).set 2 (DZ c p) else(if Bo L p up late 1=true then(if Bo L p up late 0=true then L.set 0 (DZ a p) else L).set 1 (DZ b p) else(if Bo L p up late 0=true then L.set 0 (DZ a p) else L))):=by
  unfold Ph Ph Ph Ph;rw[e0,e1,e2]
 rw[h];simp only[BA,hd,true_and,e0,e1,e2];subst hL;split<;>split<;>split<;>rfl
theorem XY {l:List Am} {p:BM} {up late:Int} (hl:l.length=3) (hd:Cp l p up late=false):An (Dg l p up late) 3=0∧[BA l p up late 0,BA l p up late 1,BA l p up late 2]=l:=by
 refine⟨Bd fun k hk=>by unfold Dg;rw[if_neg (by rw[hd];simp)],?_⟩;rw[ER (by rw[hd];simp),ER (by rw[hd];simp),ER (by rw[hd];simp)];exact(TJ hl).symm
theorem BD.none0 (B:Nat) (w:World) (hB:B≤w.heap.size):BD (fun _=>False) B (w.alloc (.cells #[] 34)) (.slice (some ⟨w.heap.size,0,none⟩) 0 0) []:=
 ⟨fun _=>⟨.nilFunc,.nilFunc,.nilFunc,.nilFunc⟩,fun _ h=>h.elim,⟨rfl,.inr ⟨w.heap.size,0,#[],rfl,hB,heap_alloc_new w _,Nat.le_refl _,by unfold maxLen;omega,rfl,rfl⟩⟩,fun i hi=>by simp at hi⟩
theorem RowIs.bel {g B:Nat} {w x:World} (hu:AK (fun b=>b=g) w x) (hB:B≤g) (h2:B≤w.heap.size):Below B w x:=hu.below h2 (fun b hb=>by have e:b=g:=hb;omega)
theorem TF (l:List Am) (p:BM) (up late:Int) (v ov uv:Value) (S S1:Nat→Prop) (w:World) (h:Az S w v l) (hc:BC l) (hp:Ai S1 w ov p.objects∧AJ S1 w uv p.updates):
    Calls Tryz.prog 35 #[.agg #[v],Dn p ov uv,.int .i64 up,.int .i64 late] w fun e w'=>∃v',e=.returned (.tuple #[.agg #[v'],.bool (Cf l p up late),.int .i64 (BK l p up late)])∧Az (fun b=>(S b∨S1 b)∨w.heap.size≤b) w' v' (Bf l p up late)∧Below w.heap.size w w':=by
  have HC:=zh hc;have hl3:=hc.len;obtain⟨A,hA⟩:∃A:Nat→Prop,A=fun b=>S b∨S1 b:=⟨_,rfl⟩
  have H:=zh (h.low.weaken (S':=fun b=>A b∧b<w.heap.size) fun b hb=>by rw[hA];exact⟨.inl hb.1,hb.2⟩);have HP:=zh (show Ai (fun b=>A b∧b<w.heap.size) w ov p.objects∧AJ (fun b=>A b∧b<w.heap.size) w uv p.updates from⟨hp.1.lt.weaken fun b hb=>by rw[hA];exact⟨.inr hb.1,hb.2⟩,hp.2.lt.weaken fun b hb=>by rw[hA];exact⟨.inr hb.1,hb.2⟩⟩);rw[show(fun b=>(S b∨S1 b)∨w.heap.size≤b)=(fun b=>A b∨w.heap.size≤b) by rw[hA]];obtain⟨ho,hu⟩:=hp;obtain⟨oap,ocp,rfl⟩:=ho.vshape;obtain⟨⟨uap,ucp⟩,rfl⟩:=hu.shape;obtain⟨a,n,cap,fr,HN0,rfl,_,_,_,h4,h5⟩:=H.out.open;obtain rfl:n=3:=HN0.out.trans hl3;obtain⟨b0,off0,rfl,hb0,k0,k1,k2,k3,k4,k5,k6⟩:=h4 (by omega);have H5:=zh h5;clear h h4 h5 hc ho hu HN0 hA;obtain⟨R,hR,hR1,HB0⟩:=AF w [.cells #[.slice (some ⟨b0,off0,none⟩) 3 cap] 24,.cells #[.slice oap p.objects.length ocp,.slice uap p.updates.length ucp,.bool p.force] 28,.cells #[.slice none 0 0] 24];simp only[List.foldl] at hR1;have hRb:=hR.below;have hRn:=hR.next
  have c0:=fun x (hx:In R x)=>Aa (j:=0) (HB0 x hx 0 _ rfl) rfl
  have p0:=fun x (hx:In R x)=>Aa (j:=0) (HB0 x hx 1 _ rfl) rfl
  have p1:=fun x (hx:In R x)=>Aa (j:=1) (HB0 x hx 1 _ rfl) rfl
  have p2:=fun x (hx:In R x)=>Aa (j:=2) (HB0 x hx 1 _ rfl) rfl
  simp only[Nat.add_zero] at c0;have HZ:=zh (fun x (hx:In R x)=>show x.heap[w.heap.size+2]?=some (.cells #[.slice none 0 0] 24 (0,0)) from HB0 x hx 2 _ rfl);have HSz:=zh (fun x (hx:In R x)=>show w.heap.size+3≤x.heap.size from lt_of_block (HB0 x hx 2 _ rfl));clear HB0;have HCk:=zh (fun x (hx:In R x)=>JU p _ _ _ _ x (HP.out.1.below (hRb _ hx)) (HP.out.2.below (hRb _ hx)));have HE0:=zh (show BK l p up late=if Ej p up late≠0 then Ej p up late else An (Dg l p up late) 3 from rfl);have HL0:=zh (show Bf l p up late=if BK l p up late=0 then[BA l p up late 0,BA l p up late 1,BA l p up late 2] else[] from rfl);have HD0:=zh (show Cf l p up late=if BK l p up late=0 then Cp l p up late else false from rfl);have HE1:=zh (show Ej p up late=if As p≠0 then As p else if 0≤up∧up≤7∧0≤late∧late≤7 then 0 else 3 from rfl);have r0:=p0 _ hR1;have r1:=p1 _ hR1;have r2:=p2 _ hR1;have Hk:=zh (And.intro k0 (And.intro k1 (And.intro k2 (And.intro k3 (And.intro k4 (And.intro k5 k6))))));clear k0 k1 k2 k3 k4 k5 k6 hl3;have HL3:=zh HC.out.len;simp only[Dn];by_cases hck:As p=0
  case neg=>
    have HE2:=zh (show BK l p up late=As p by have h0:Ej p up late=As p:=(by rw[HE1.out,if_pos hck]);rw[HE0.out,if_pos (by rw[h0];exact hck),h0]);have HL2:=zh (show Bf l p up late=[] by rw[HL0.out,HE2.out,if_neg hck]);have HD2:=zh (show Cf l p up late=false by rw[HD0.out,HE2.out,if_neg hck]);have q1:(As p==0)=false:=by simpa using hck
    have q2:(As p !=0)=true:=by simpa using hck
    clear hck HE0 HL0 HD0 HE1;generalize As p=ce at*
    go_enter Tryz.func35, Tryz.ntmps35
    go_wp2_with fail;refine(HCk.out _ hR1).mono ?_;rintro e w1 ⟨rfl,hb1⟩;have hR2:=hRn _ _ hR1 hb1;clear r0 r1 r2 hb1;have HZW:=zh (HZ.out _ hR2);have HBW:=zh (hRb _ hR2);have gz:=Aa (j:=0) HZW.out rfl;have fz:=Ad (j:=0) HZW.out;go_wp2_with fail;have hu5:=su (w.heap.size+2) 0 w1 (.slice none 0 0);have hk5:=sb HZW.out (.slice none 0 0);have hB5:=HBW.out.trans (hu5.below (B:=w.heap.size) HBW.out.size (fun b hb=>by have e2:b=w.heap.size+2:=hb;omega));generalize w1.setCell ⟨w.heap.size+2,0,none⟩ (.slice none 0 0)=x5 at*;have k0:=Aa (j:=0) hk5 rfl;refine bodyPost_ret (v:=.tuple #[.agg #[.slice none 0 0],.bool false,.int .i64 ce]) (by simp[results,Tryz.results35,go_sem];simp[k0]<;>rfl) rfl ?_;refine⟨_,by rw[HD2.out,HE2.out]<;>rfl,by rw[HL2.out];exact Az.nil _ _ _ _ (by omega),hB5⟩
  rw[hck] at HCk;cases hwu:within up 0 7
  case false=>
    have hE0:Ej p up late=3:=by rw[HE1.out,if_neg (by simpa using hck),if_neg (fun h=>DT hwu ⟨h.1,h.2.1⟩)]
    have hE3:BK l p up late=3:=by rw[HE0.out,if_pos (by rw[hE0];decide),hE0]
    clear hE0;have HE2:=zh hE3;have HL2:=zh (show Bf l p up late=[] by rw[HL0.out,hE3];rfl);have HD2:=zh (show Cf l p up late=false by rw[HD0.out,hE3];rfl);clear hE3 HE0 HL0 HD0 HE1 hck
    go_enter Tryz.func35, Tryz.ntmps35
    go_wp2_with fail;refine(HCk.out _ hR1).mono ?_;rintro e w1 ⟨rfl,hb1⟩;have hR2:=hRn _ _ hR1 hb1;clear r0 r1 r2 hb1;go_wp2_with fail;refine(Ao up 0 7 _).mono ?_;rintro e y1 ⟨rfl,rfl⟩;rw[hwu];have HZW:=zh (HZ.out _ hR2);have HBW:=zh (hRb _ hR2);have gz:=Aa (j:=0) HZW.out rfl;have fz:=Ad (j:=0) HZW.out;go_wp2_with fail;have hu5:=su (w.heap.size+2) 0 w1 (.slice none 0 0);have hk5:=sb HZW.out (.slice none 0 0);have hB5:=HBW.out.trans (hu5.below (B:=w.heap.size) HBW.out.size (fun b hb=>by have e2:b=w.heap.size+2:=hb;omega));generalize w1.setCell ⟨w.heap.size+2,0,none⟩ (.slice none 0 0)=x5 at*;have k0:=Aa (j:=0) hk5 rfl;refine bodyPost_ret (v:=.tuple #[.agg #[.slice none 0 0],.bool false,.int .i64 3]) (by simp[results,Tryz.results35,go_sem];simp[k0]<;>rfl) rfl ?_;refine⟨_,by rw[HD2.out,HE2.out]<;>rfl,by rw[HL2.out];exact Az.nil _ _ _ _ (by omega),hB5⟩
  cases hwl:within late 0 7
  case false=>
    have hE0:Ej p up late=3:=by rw[HE1.out,if_neg (by simpa using hck),if_neg (fun h=>DT hwl ⟨h.2.2.1,h.2.2.2⟩)]
    have hE3:BK l p up late=3:=by rw[HE0.out,if_pos (by rw[hE0];decide),hE0]
    clear hE0;have HE2:=zh hE3;have HL2:=zh (show Bf l p up late=[] by rw[HL0.out,hE3];rfl);have HD2:=zh (show Cf l p up late=false by rw[HD0.out,hE3];rfl);clear hE3 HE0 HL0 HD0 HE1 hck
    go_enter Tryz.func35, Tryz.ntmps35
    go_wp2_with fail;refine(HCk.out _ hR1).mono ?_;rintro e w1 ⟨rfl,hb1⟩;have hR2:=hRn _ _ hR1 hb1;clear r0 r1 r2 hb1;go_wp2_with fail;refine(Ao up 0 7 _).mono ?_;rintro e y1 ⟨rfl,rfl⟩;rw[hwu];go_wp2_with fail;refine(Ao late 0 7 _).mono ?_;rintro e y1 ⟨rfl,rfl⟩;rw[hwl];have HZW:=zh (HZ.out _ hR2);have HBW:=zh (hRb _ hR2);have gz:=Aa (j:=0) HZW.out rfl;have fz:=Ad (j:=0) HZW.out;go_wp2_with fail;have hu5:=su (w.heap.size+2) 0 w1 (.slice none 0 0);have hk5:=sb HZW.out (.slice none 0 0);have hB5:=HBW.out.trans (hu5.below (B:=w.heap.size) HBW.out.size (fun b hb=>by have e2:b=w.heap.size+2:=hb;omega));generalize w1.setCell ⟨w.heap.size+2,0,none⟩ (.slice none 0 0)=x5 at*;have k0:=Aa (j:=0) hk5 rfl;refine bodyPost_ret (v:=.tuple #[.agg #[.slice none 0 0],.bool false,.int .i64 3]) (by simp[results,Tryz.results35,go_sem];simp[k0]<;>rfl) rfl ?_;refine⟨_,by rw[HD2.out,HE2.out]<;>rfl,by rw[HL2.out];exact Az.nil _ _ _ _ (by omega),hB5⟩
  have Hup:=zh (BH hwu);have Hlt:=zh (BH hwl);have hE0:Ej p up late=0:=by rw[HE1.out,if_neg (by simpa using hck),if_pos ⟨Hup.out.1,Hup.out.2,Hlt.out.1,Hlt.out.2⟩]
  have HE4:=zh (show BK l p up late=An (Dg l p up late) 3 by rw[HE0.out,if_neg (by simpa using hE0)]);clear hE0;have Hck:=zh hck;clear HE0 HE1 hck
  go_enter Tryz.func35, Tryz.ntmps35
  go_wp2_with fail;refine(HCk.out _ hR1).mono ?_;rintro e w1 ⟨rfl,hb1⟩;have hR2:=hRn _ _ hR1 hb1;clear r0 r1 r2 hb1;go_wp2_with fail;refine(Ao up 0 7 _).mono ?_;rintro e y1 ⟨rfl,rfl⟩;rw[hwu];go_wp2_with fail;refine(Ao late 0 7 _).mono ?_;rintro e y1 ⟨rfl,rfl⟩;rw[hwl];clear hwu hwl;have HI0:=zh (show Below w1.heap.size w1 (w1.alloc (.cells #[.string ⟨#[]⟩,.string ⟨#[]⟩,.string ⟨#[]⟩] 9))∧(w1.alloc (.cells #[.string ⟨#[]⟩,.string ⟨#[]⟩,.string ⟨#[]⟩] 9)).heap[w1.heap.size]?=some (.cells (SN l p up 0) 9 (0,0)) from⟨(Below.refl _ _).alloc (Nat.le_refl _) _,heap_alloc_new w1 _⟩);go_wp2_with fail;go_loopw [13] (fun a wr=>∃k:Nat,k≤3∧a=.int .i64 k∧Hid (Below w1.heap.size w1 wr∧wr.heap[w1.heap.size]?=some (.cells (SN l p up k) 9 (0,0)))) (fun a _=>3-(intOf a).toNat)
  case atStart=>exact⟨0,by omega,rfl,HI0.out⟩
  obtain⟨k,hk,rfl,HI⟩:=hrel;clear HI0;have hRw:=hRn _ _ hR2 HI.out.1;by_cases hlt:k<3
  case pos=>
    obtain⟨wo,rfl⟩:∃wo:World,wo=wr:=⟨_,rfl⟩;have hi1:=zk k;have hi2:(k:Int)<3:=by omega
    go_wp2_with fail;refine(LZ up k _ Hup.out hlt).mono ?_;rintro e x1 ⟨rfl,hb2⟩;have hRx:=hRn _ _ hRw hb2;cases hb:DU up k
    case false=>
      have HN:=zh (Yr (l:=l) (p:=p) (up:=up) hlt (show Cb l p up k=⟨#[]⟩ by unfold Cb;rw[if_neg (by rw[hb];simp)];rfl));have HI2:=zh (show Below w1.heap.size w1 x1∧x1.heap[w1.heap.size]?=some (.cells (SN l p up (k+1)) 9 (0,0)) from⟨Al HI.out.1 hb2,by rw[HN.out];exact Ab HI.out.2 hb2⟩);clear hb2 HI hRw;go_wp2_with fail;go_roundw
      case rel=>exact⟨k+1,by omega,by go_num,HI2.out⟩
      case measure=>simp[intOf];omega
    have cc:=c0 _ hRx;have hBx:=hRb _ hRx;have y3:=Hk.out.2.2.2.1 k x1 hlt hBx;by_cases hph:(Ag l k).phase=0
    case neg=>
      have HN:=zh (Yr (l:=l) (p:=p) (up:=up) hlt (show Cb l p up k=⟨#[]⟩ by unfold Cb;rw[if_neg (fun h=>hph h.2)];rfl));have HI2:=zh (show Below w1.heap.size w1 x1∧x1.heap[w1.heap.size]?=some (.cells (SN l p up (k+1)) 9 (0,0)) from⟨Al HI.out.1 hb2,by rw[HN.out];exact Ab HI.out.2 hb2⟩);have q1:((Ag l k).phase==0)=false:=by simpa using hph
      clear hph hb2 HI hRw;go_wp2_with fail;go_roundw
      case rel=>exact⟨k+1,by omega,by go_num,HI2.out⟩
      case measure=>simp[intOf];omega
    have q1:((Ag l k).phase==0)=true:=by simpa using hph
    have HvA:=zh (show Cb l p up k=CC (Ag l k) p by unfold Cb;rw[if_pos ⟨hb,hph⟩]);have HVb:=zh (And.intro (Al HI.out.1 hb2) (Ab HI.out.2 hb2));clear hph hb2 HI hRw;go_upto_region 11 with fail;clear cc y3 q1 hb hBx;obtain⟨T,hT,hTw,hTu⟩:=FD w1;have hTb:=hT.below;have hTn:=hT.next
    have HTu:=zh hTu;clear hTu;have hT1:=hTn _ _ hTw HVb.out.1;have hTR:∀x,In T x→In R x:=fun x hx=>hRn _ _ hR2 (hTb _ hx)
    have d0:=fun x (hx:In T x)=>c0 x (hTR _ hx)
    have g0:=fun x (hx:In T x)=>p0 x (hTR _ hx)
    have g1:=fun x (hx:In T x)=>p1 x (hTR _ hx)
    have g2:=fun x (hx:In T x)=>p2 x (hTR _ hx)
    have e0:=fun x (hx:In T x)=>Hk.out.1 k x hlt (hRb _ (hTR _ hx))
    have e1:=fun x (hx:In T x)=>Hk.out.2.1 k x hlt (hRb _ (hTR _ hx))
    have e2:=fun x (hx:In T x)=>Hk.out.2.2.1 k x hlt (hRb _ (hTR _ hx))
    have e3:=fun x (hx:In T x)=>Hk.out.2.2.2.1 k x hlt (hRb _ (hTR _ hx))
    have e4:=fun x (hx:In T x)=>Hk.out.2.2.2.2.1 k x hlt (hRb _ (hTR _ hx))
    have e5:=fun x (hx:In T x)=>Hk.out.2.2.2.2.2.1 k x hlt (hRb _ (hTR _ hx))
    have e6:=fun x (hx:In T x)=>Hk.out.2.2.2.2.2.2 k x hlt (hRb _ (hTR _ hx))
    have HVo:=zh (fun x (hx:In T x)=>Ud (Ag l k) p _ _ _ _ _ _ _ _ _ _ x ((H5.out k hlt).store.below (hRb _ (hTR _ hx))) ((H5.out k hlt).refs.below (hRb _ (hTR _ hx))) (HP.out.1.below (hRb _ (hTR _ hx))) (HP.out.2.below (hRb _ (hTR _ hx))) ⟨Ai.shape3 (H5.out k hlt).objs,AJ.shape3 (H5.out k hlt).upds⟩ Hck.out (HC.out.each k hlt).gen.1 (HC.out.each k hlt).gen.2);rw[←HvA.out] at HVo;generalize hvv:Cb l p up k=s at*;have Hvv:=zh hvv;clear hvv;refine rh (In T) ?_;have hC0:=hT.drew _ hT1;have HV0:=zh (show x1.drew.heap[w1.heap.size]?=some (.cells (SN l p up k) 9 (0,0)) from HVb.out.2);generalize hx0:x1.drew=x0 at hC0 HV0⊢;clear hx0;refine tk 0 (.slice (some ⟨w1.heap.size,0,none⟩) 3 3) (fun w hSw=>?_) hC0 ?_
    ·go_simp
    simp only[tkS];refine tk 1 (.int .i64 (k:Int)) (fun w hSw=>?_) hC0 ?_
    ·go_simp
    simp only[tkS];refine tk 2 (.pointer (some ⟨w.heap.size,0,none⟩)) (fun w hSw=>?_) hC0 ?_
    ·go_simp
    simp only[tkS];refine tk 3 (.slice (some ⟨b0,off0,none⟩) 3 cap) (fun w hSw=>?_) hC0 ?_
    ·have yy:=d0 _ hSw;go_simp
    simp only[tkS];refine tk 4 (.int .i64 (k:Int)) (fun w hSw=>?_) hC0 ?_
    ·go_simp
    simp only[tkS];refine tk 5 (.pointer (some ⟨b0,off0+k*7,none⟩)) (fun w hSw=>?_) hC0 ?_
    ·go_simp
    simp only[tkS];refine tk 6 (.agg (c7 (Ag l k) (fr k).sa (fr k).sc (fr k).ra (fr k).rc (fr k).oa (fr k).oc (fr k).ua (fr k).uc)) (fun w hSw=>?_) hC0 ?_
    ·have y0:=e0 _ hSw;have y1:=e1 _ hSw;have y2:=e2 _ hSw;have y3:=e3 _ hSw;have y4:=e4 _ hSw;have y5:=e5 _ hSw;have y6:=e6 _ hSw;go_simp
    simp only[tkS];refine tk 7 (.agg #[.slice oap p.objects.length ocp,.slice uap p.updates.length ucp,.bool p.force]) (fun w hSw=>?_) hC0 ?_
    ·have y0:=g0 _ hSw;have y1:=g1 _ hSw;have y2:=g2 _ hSw;go_simp
    simp only[tkS];refine al1 8 ?_;refine Or.inl ?_;go_wp2_with fail;refine(HVo.out _ hC0).mono ?_;rintro e x10 ⟨rfl,hb0⟩;have hC1:=hTn _ _ hC0 hb0;replace HV0:=zh (Ab HV0.out hb0);generalize x10=y1 at*;clear hb0;go_simp;refine tk 9 (.pointer (some ⟨w1.heap.size,k,none⟩)) (fun w hSw=>?_) hC1 ?_
    ·go_simp
    simp only[tkS];refine al1 10 ?_;refine Or.inl ?_;have hTk:=hTb _ hC1;have hVy:=HV0.out;have hcv:=Aa hVy (aC hlt);have hfv:=Ad (j:=k) hVy;have hset:=Ah (j:=k) hVy (.string s);rw[←Hvv.out,aD hlt,Hvv.out] at hset;have hu7:AK (fun b=>b=w1.heap.size) y1 (y1.setCell ⟨w1.heap.size,k,none⟩ (.string s)):=(AK.refl (fun b=>b=w1.heap.size) y1).setCell (p:=⟨w1.heap.size,k,none⟩) (fun _=>rfl) _;have HEnd:=zh (show Below w1.heap.size w1 (y1.setCell ⟨w1.heap.size,k,none⟩ (.string s))∧(y1.setCell ⟨w1.heap.size,k,none⟩ (.string s)).heap[w1.heap.size]?=some (.cells (SN l p up (k+1)) 9 (0,0)) from⟨hTk.trans (hu7.below (B:=w1.heap.size) hTk.size (fun b hb=>by have e2:b=w1.heap.size:=hb;omega)),hset⟩);have HS9:=zh (HTu.out _ _ _ hC1 hu7 (fun b hb=>by have e2:b=w1.heap.size:=hb;omega));clear hTk hVy hset hu7;go_wp2_with fail
    first|refine⟨by kernel_rfl,?_⟩|refine⟨HS9.out,by kernel_rfl,?_⟩
    first|change Exit.then _ _ _ _ (y1.setCell ⟨w1.heap.size,k,none⟩ (.string s))|change Exit.inBlock _ _ _ _ (y1.setCell ⟨w1.heap.size,k,none⟩ (.string s))
    generalize y1.setCell ⟨w1.heap.size,k,none⟩ (.string s)=w9 at*;go_wp2_with fail;go_roundw
    case rel=>exact⟨k+1,by omega,by go_num,HEnd.out⟩
    case measure=>simp[intOf];omega
  obtain rfl:k=3:=by omega
  obtain⟨w2,rfl⟩:∃w2:World,w2=wr:=⟨_,rfl⟩;have hV2:=HI.out.2;rw[aB] at hV2;have HV2:=zh hV2;have HTl:=zh (SD (Cr l p up) _ _ w2 (Ym hV2 (by show 3≤1000;omega) (SJ HC.out Hck.out)));have HB2:=zh HI.out.1;clear hV2 HI;have Hcm:=zh (fun k=>show Bo l p up late k=((CZ (Cr l p up)).2 && ((Cb l p up k).toList==(CZ (Cr l p up)).1.toList) && !DU late k) from rfl);have HvL:=zh (show(Cr l p up).length=3 from rfl);replace HTl:=zh (show Calls Tryz.prog 57 #[.slice (some ⟨w1.heap.size,0,none⟩) 3 3] w2 _ from HTl.out);obtain⟨told,htold⟩:∃told,told=(CZ (Cr l p up)).1:=⟨_,rfl⟩;obtain⟨ok,hok⟩:∃ok,ok=(CZ (Cr l p up)).2:=⟨_,rfl⟩;rw[←htold,←hok] at HTl;simp only[←htold,←hok] at Hcm;have Hok:=zh hok;clear htold hok;go_wp2_with fail;refine HTl.out.mono ?_;rintro e w3 ⟨rfl,hb3⟩;obtain⟨T,hT,hT1,_⟩:=Av w3;have hTb:=hT.below;have hTn:=hT.next
  have hRw3:=hRn _ _ hRw hb3;have hTR:∀x,In T x→In R x:=fun x hx=>hRn _ _ hRw3 (hTb _ hx)
  have HV3:=zh (Ab HV2.out hb3);have u0:=fun x (hx:In T x) (k:Nat) (hk:k<3)=>show x.cell? ⟨w1.heap.size,k,none⟩=some (.string (Cb l p up k)) from Ae (hTb _ hx) (Aa HV3.out (Uf hk))
  have Hu0:=zh u0;clear u0;clear hb3 HTl HV2;go_wp2_with fail;go_loopw [16,17] (fun nn i wr=>∃k:Nat,k≤3∧i=.int .i64 k∧nn=.int .i64 (DG l p up late k:Nat)∧In T wr) (fun _ i _=>3-(intOf i).toNat)
  case atStart=>exact⟨0,by omega,rfl,rfl,hT1⟩
  obtain⟨k,hk,rfl,rfl,hTr⟩:=hrel;by_cases hlt:k<3
  case pos=>
    have Hn:=zh (show DG l p up late (k+1)=DG l p up late k+if Bo l p up late k=true then 1 else 0 from rfl);rw[Hcm.out k] at Hn;have y0:=Hu0.out _ hTr k hlt;have hi1:=zk k;have hi2:(k:Int)<3:=by omega
    have hcl:=Nw l p up late k;have hwn:=Be (n:=(DG l p up late k:Int)+1) (by omega);generalize DG l p up late k=N at*;generalize Cb l p up k=s at*;cases ok
    case false=>
      have Hr:=zh (show DG l p up late (k+1)=N by rw[Hn.out,Bool.false_and,Bool.false_and,if_neg (by decide)];rfl);clear Hn;go_wp2_with fail;go_roundw
      case rel=>exact⟨k+1,by omega,by go_num,by rw[Hr.out],hTr⟩
      case measure=>simp[intOf];omega
    cases hq:(s.toList==told.toList)
    case false=>
      have Hr:=zh (show DG l p up late (k+1)=N by rw[Hn.out,hq,Bool.and_false,Bool.false_and,if_neg (by decide)];rfl);clear Hn;go_wp2_with fail;go_roundw
      case rel=>exact⟨k+1,by omega,by go_num,by rw[Hr.out],hTr⟩
      case measure=>simp[intOf];omega
    rw[hq,Bool.true_and,Bool.true_and] at Hn;go_wp2_with fail;refine(LZ late k _ Hlt.out hlt).mono ?_;rintro e x1 ⟨rfl,hb2⟩;have hTx:=hTn _ _ hTr hb2;clear hb2;cases hb:DU late k
    case false=>
      have Hr:=zh (show DG l p up late (k+1)=N+1 by rw[Hn.out,hb];rfl);clear Hn;go_wp2_with fail;go_roundw
      case rel=>exact⟨k+1,by omega,by go_num,by rw[Hr.out];go_num,hTx⟩
      case measure=>simp[intOf];omega
    have Hr:=zh (show DG l p up late (k+1)=N by rw[Hn.out,hb];rfl);clear Hn;go_wp2_with fail;go_roundw
    case rel=>exact⟨k+1,by omega,by go_num,by rw[Hr.out],hTx⟩
    case measure=>simp[intOf];omega
  obtain rfl:k=3:=by omega
  obtain⟨w4,rfl⟩:∃w4:World,w4=wr:=⟨_,rfl⟩;have hR4:=hTR _ hTr;have hs4:=HSz.out _ hR4;have hb4:=hRb _ hR4;have hO3:=BD.none0 (w.heap.size+3) w4 hs4;have hb3:Below w4.heap.size w4 (w4.alloc (.cells #[] 34)):=bal;obtain⟨v4,x4,hap,hO4,hu4⟩:=Ga 22 hO3 (H.out.below (hb4.trans (hb3.mono (by omega)))) (fun b hb=>⟨by simp;omega,fun e=>by simp[Value.ownBlock] at e;omega⟩) (by have:=HL3.out;simp;omega) (by simp;omega);rw[List.nil_append] at hO4;obtain⟨a4,c4,rfl⟩:=hO4.shape;obtain⟨g,rfl⟩:∃g,a4=some ⟨g,0,none⟩:=by
    obtain⟨_,_,⟨_,h2⟩,_⟩:=hO4;rcases h2 with⟨e,h0⟩|⟨g,cp,cur,e,_⟩
    ·have:=HL3.out;exfalso;omega
    ·cases e;exact⟨g,rfl⟩
  rw[HL3.out] at hO4 hap;have hg4:=hO4.block (g:=g) rfl;have hB4:Below w4.heap.size w4 x4:=hb3.trans (hu4.below (B:=w4.heap.size) (by simp) (fun b hb=>by simp[Value.ownBlock] at hb;omega));obtain⟨x5,hx5⟩:∃x5,x5=x4.alloc (.cells #[.slice (some ⟨g,0,none⟩) 3 c4] 24):=⟨_,rfl⟩;have hb5:Below x4.heap.size x4 x5:=by rw[hx5];exact(Below.refl _ _).alloc (Nat.le_refl _) _
  have HO5:=zh (show BD (fun b=>((A b∧b<w.heap.size)∨w.heap.size+3≤b)∧b≠g∧b<x5.heap.size) (w.heap.size+3) x5 (.slice (some ⟨g,0,none⟩) 3 c4) l from by
    have hz4:=hB4.size;have hz5:=hb5.size;refine(hO4.below hb5).weaken (fun b hb=>?_) (fun b hb=>⟨hb.2.2,fun e=>hb.2.1 (by cases e;rfl)⟩) (Nat.le_refl _);rcases hb with hb|hb
    ·exact hb.elim
    ·exact⟨.inl hb,by omega,by omega⟩)
  have hT5:In T x5:=hTn _ _ hTr (hB4.trans (hb5.mono hB4.size));have hD5:x5.heap[x4.heap.size]?=some (.cells #[.slice (some ⟨g,0,none⟩) 3 c4] 24 (0,0)):=by rw[hx5];exact heap_alloc_new x4 _
  have hgl:g<x4.heap.size:=hg4.2;have hgb:w.heap.size+3≤g:=hg4.1;have hz5:x5.heap.size=x4.heap.size+1:=by rw[hx5];simp
  have Hz5:=zh hz5;have HgV:=zh (show w1.heap.size≠g from fun e=>by have h1:=Ab (Ab HV3.out (hTb _ hT5)) (Below.refl _ _);obtain⟨_,_,h2,_⟩:=HO5.out;exact Gv h2 h1 (by decide) (by rw[e];rfl));have HD5:=zh hD5;have Hx5:=zh hx5;have Hap:=zh hap;have cc:=c0 _ (hRn _ _ hR4 hb3);have h3le:=Nw l p up late 3;have Hdo:=zh (show Cp l p up late=decide (2≤DG l p up late 3) from rfl);clear hO4 hO3 hu4 hb3 hB4 hb5 hx5 hz5 hg4 hD5 hb4 hs4;generalize hcn:DG l p up late 3=N at*;have Hcn:=zh hcn;clear hcn;by_cases h2:(N:Int)<2
  case pos=>
    have Hdv:=zh (show Cp l p up late=false by rw[Hdo.out];simp;omega);have hpn:=XY HL3.out Hdv.out;have HE2:=zh (HE4.out.trans hpn.1);have HL2:=zh (show Bf l p up late=l by rw[HL0.out,if_pos HE2.out];exact hpn.2);have HD2:=zh (show Cf l p up late=false by rw[HD0.out,if_pos HE2.out];exact Hdv.out);clear hpn HE4 HL0 HD0;have HZW:=zh (HZ.out _ (hTR _ hT5));have HBW:=zh (hRb _ (hTR _ hT5));have d5:=Aa (j:=0) HD5.out rfl;go_upto_region 21 with(at_builtin;refine AY rfl _ _ 22 rfl _ _ _ rfl rfl hap ?_);rw[←Hx5.out];clear hap cc;have gz:=Aa (j:=0) HZW.out rfl;have fz:=Ad (j:=0) HZW.out;have gz:=Aa (j:=0) HZW.out rfl;have fz:=Ad (j:=0) HZW.out;go_wp2_with fail;have hu5:=su (w.heap.size+2) 0 x5 (.slice (some ⟨g,0,none⟩) 3 c4);have hk5:=sb HZW.out (.slice (some ⟨g,0,none⟩) 3 c4);have hB5:=HBW.out.trans (hu5.below (B:=w.heap.size) HBW.out.size (fun b hb=>by have e2:b=w.heap.size+2:=hb;omega));have hO7:=HO5.out.upd hu5 (fun b hb e=>by have e2:b=w.heap.size+2:=e;rcases hb.1 with h|h<;>omega) (fun q hq e=>by have e2:q=w.heap.size+2:=e;simp[Value.ownBlock] at hq;omega);generalize x5.setCell ⟨w.heap.size+2,0,none⟩ (.slice (some ⟨g,0,none⟩) 3 c4)=x5 at*;have k0:=Aa (j:=0) hk5 rfl;refine bodyPost_ret (v:=.tuple #[.agg #[.slice (some ⟨g,0,none⟩) 3 c4],.bool false,.int .i64 0]) (by simp[results,Tryz.results35,go_sem];simp[k0]<;>rfl) rfl ?_;refine⟨_,by rw[HD2.out,HE2.out]<;>rfl,by rw[HL2.out];exact hO7.reps (S':=fun b=>A b∨w.heap.size≤b) (by have:=HL3.out;omega) (fun b hb=>hb.1.elim (fun h=>.inl h.1) (fun h=>.inr (by omega))) (fun b hb=>by simp[Value.ownBlock] at hb;exact .inr (by omega)),hB5⟩
  have Hdv:=zh (show Cp l p up late=true by rw[Hdo.out];simp;omega);have Hoks:=zh (show ok=true from by rw[Hok.out];obtain⟨a,b,_,_,_,_,ca,_⟩:=Ny HC.out Hdv.out;unfold Bo at ca;rw[Bool.and_eq_true,Bool.and_eq_true] at ca;exact ca.1.1);obtain rfl:=Hoks.out;simp only[Bool.true_and] at Hcm;go_upto_region 22 with(at_builtin;refine AY rfl _ _ 22 rfl _ _ _ rfl rfl hap ?_);rw[←Hx5.out];clear hap cc h2 h3le Hap Hx5;generalize x4.heap.size=D5 at*;go_wp2_with fail;go_loopw [19] (fun i wr=>∃k:Nat,k≤3∧i=.int .i64 k∧Hid (An (Dg l p up late) k=0)∧Hid (AK (fun b=>b=g) x5 wr∧BD (fun b=>((A b∧b<w.heap.size)∨w.heap.size+3≤b)∧b≠g∧b<wr.heap.size) (w.heap.size+3) wr (.slice (some ⟨g,0,none⟩) 3 c4) (Ph l p up late k))) (fun i _=>3-(intOf i).toNat)
  case atStart=>exact⟨0,by omega,rfl,rfl,AK.refl _ _,HO5.out⟩
  obtain⟨k,hk,rfl,Hs,HI⟩:=hrel;clear HO5;obtain⟨wo,rfl⟩:∃wo:World,wo=wr:=⟨_,rfl⟩;have HBo:=zh (show Below w.heap.size w wo from(hRb _ (hTR _ hT5)).trans (RowIs.bel HI.out.1 (by omega) (hRb _ (hTR _ hT5)).size));by_cases hlt:k<3
  case neg=>
    obtain rfl:k=3:=by omega
    have HE2:=zh (HE4.out.trans Hs.out);have HL2:=zh (show Bf l p up late=Ph l p up late 3 by rw[HL0.out,if_pos HE2.out,VC HL3.out Hdv.out]);have HD2:=zh (show Cf l p up late=true by rw[HD0.out,if_pos HE2.out];exact Hdv.out);have HZW:=zh (HI.out.1.blk (HZ.out _ (hTR _ hT5)) (fun e=>by have e2:w.heap.size+2=g:=e;omega));have HBW:=HBo;have d5:=Aa (j:=0) (HI.out.1.blk HD5.out (fun e=>by have e2:D5=g:=e;omega)) rfl;have HPl:=zh (Iv l p up late 3);generalize Ph l p up late 3=L3 at*;have HO7:=zh HI.out.2;clear HI HE4 HL0 HD0;have gz:=Aa (j:=0) HZW.out rfl;have fz:=Ad (j:=0) HZW.out;go_wp2_with fail;have hu5:=su (w.heap.size+2) 0 wo (.slice (some ⟨g,0,none⟩) 3 c4);have hk5:=sb HZW.out (.slice (some ⟨g,0,none⟩) 3 c4);have hB5:=HBW.out.trans (hu5.below (B:=w.heap.size) HBW.out.size (fun b hb=>by have e2:b=w.heap.size+2:=hb;omega));have hO7:=HO7.out.upd hu5 (fun b hb e=>by have e2:b=w.heap.size+2:=e;rcases hb.1 with h|h<;>omega) (fun q hq e=>by have e2:q=w.heap.size+2:=e;simp[Value.ownBlock] at hq;omega);generalize wo.setCell ⟨w.heap.size+2,0,none⟩ (.slice (some ⟨g,0,none⟩) 3 c4)=x5 at*;have k0:=Aa (j:=0) hk5 rfl;refine bodyPost_ret (v:=.tuple #[.agg #[.slice (some ⟨g,0,none⟩) 3 c4],.bool true,.int .i64 0]) (by simp[results,Tryz.results35,go_sem];simp[k0]<;>rfl) rfl ?_;refine⟨_,by rw[HD2.out,HE2.out]<;>rfl,by rw[HL2.out];exact hO7.reps (S':=fun b=>A b∨w.heap.size≤b) (by have:=HL3.out;have:=HPl.out;omega) (fun b hb=>hb.1.elim (fun h=>.inl h.1) (fun h=>.inr (by omega))) (fun b hb=>by simp[Value.ownBlock] at hb;exact .inr (by omega)),hB5⟩
  have hi1:=zk k;have hi2:(k:Int)<3:=by omega
  have HnT:=zh (show Ph l p up late (k+1)=if Bo l p up late k=true then(Ph l p up late k).set k (DZ (Ag l k) p) else Ph l p up late k from rfl);have HnE:=zh (show Dg l p up late k=if Cp l p up late=true∧Bo l p up late k=true∧(Ag l k).gen=999 then 2 else 0 from rfl);have HLl:=zh (show(Ph l p up late k).length=3 by rw[Iv];exact HL3.out);have HLs:=zh (fun(e:Int) (he:Dg l p up late k=e) (hne:e≠0)=>(BX (f:=Dg l p up late) Hs.out (by rw[he];exact hne) hlt).trans he);have HU:=zh HI.out.1;have HO:=zh HI.out.2;clear HI;have hcb:=Hcm.out k;have y0:=HU.out.cell (Hu0.out _ hT5 k hlt) (fun e=>HgV.out e);generalize Ph l p up late k=L at*;generalize hvs:Cb l p up k=s at*;have Hvs:=zh hvs;clear hvs;cases hq:(s.toList==told.toList)
  case false=>
    rw[hq,Bool.false_and] at hcb;have q2:(s.toList !=told.toList)=true:=by rw[bne,hq];rfl
    have Hs2:=zh (show An (Dg l p up late) (k+1)=0 from Ay Hs.out (by rw[HnE.out,if_neg (fun h=>by rw[hcb] at h;exact absurd h.2.1 (by simp))]));have HI2:=zh (show AK (fun b=>b=g) x5 wo∧BD (fun b=>((A b∧b<w.heap.size)∨w.heap.size+3≤b)∧b≠g∧b<wo.heap.size) (w.heap.size+3) wo (.slice (some ⟨g,0,none⟩) 3 c4) (Ph l p up late (k+1)) from by rw[HnT.out,hcb,if_neg (by simp)];exact⟨HU.out,HO.out⟩);clear HO HU hcb;go_wp2_with fail;go_roundw
    case rel=>exact⟨k+1,by omega,by go_num,Hs2.out,HI2.out⟩
    case measure=>simp[intOf];omega
  rw[hq,Bool.true_and] at hcb;have q2:(s.toList !=told.toList)=false:=by rw[bne,hq];rfl
  go_wp2_with fail;refine(LZ late k _ Hlt.out hlt).mono ?_;rintro e x1 ⟨rfl,hb2⟩;cases hb:DU late k
  case true=>
    rw[hb] at hcb;replace hcb:Bo l p up late k=false:=hcb;have Hs2:=zh (show An (Dg l p up late) (k+1)=0 from Ay Hs.out (by rw[HnE.out,if_neg (fun h=>by rw[hcb] at h;exact absurd h.2.1 (by simp))]));have HI2:=zh (show AK (fun b=>b=g) x5 x1∧BD (fun b=>((A b∧b<w.heap.size)∨w.heap.size+3≤b)∧b≠g∧b<x1.heap.size) (w.heap.size+3) x1 (.slice (some ⟨g,0,none⟩) 3 c4) (Ph l p up late (k+1)) from by rw[HnT.out,hcb,if_neg (by simp)];exact⟨HU.out.trans ((Dp hb2).weaken fun b hb h=>by have h1:wo.heap.size≤b:=h;omega) (fun _ _ h=>h),(HO.out.below hb2).weaken (fun b h=>⟨h.1,h.2.1,Nat.lt_of_lt_of_le h.2.2 hb2.size⟩) (fun b h=>⟨h.2.2,fun e=>h.2.1 (by cases e;rfl)⟩) (Nat.le_refl _)⟩);clear HO HU hcb hb2;go_wp2_with fail;go_roundw
    case rel=>exact⟨k+1,by omega,by go_num,Hs2.out,HI2.out⟩
    case measure=>simp[intOf];omega
  rw[hb] at hcb;replace hcb:Bo l p up late k=true:=hcb;have hcm:=Ee hcb;rw[if_pos hcb] at HnT;have HU1:=zh (show AK (fun b=>b=g) x5 x1 from HU.out.trans ((Dp hb2).weaken fun b hb h=>by have h1:wo.heap.size≤b:=h;omega) (fun _ _ h=>h));have HO1:=zh (show BD (fun b=>((A b∧b<w.heap.size)∨w.heap.size+3≤b)∧b≠g∧b<x1.heap.size) (w.heap.size+3) x1 (.slice (some ⟨g,0,none⟩) 3 c4) L from(HO.out.below hb2).weaken (fun b h=>⟨h.1,h.2.1,Nat.lt_of_lt_of_le h.2.2 hb2.size⟩) (fun b h=>⟨h.2.2,fun e=>h.2.1 (by cases e;rfl)⟩) (Nat.le_refl _));have HBx:=zh (HBo.out.trans (hb2.mono HBo.out.size));clear HO HU hb2 y0;obtain⟨T2,hT2,hT21,_⟩:=Av x1;have hT2b:=hT2.below;have hT2n:=hT2.next
  have HBt:=zh (fun x (hx:In T2 x)=>HBx.out.trans ((hT2b _ hx).mono HBx.out.size));have n0:=fun x (hx:In T2 x)=>Ae (hT2b _ hx) (HU1.out.cell (c0 _ (hTR _ hT5)) (fun e=>by have e2:w.heap.size=g:=e;omega))
  have m0:=fun x (hx:In T2 x)=>Ae (hT2b _ hx) (HU1.out.cell (p0 _ (hTR _ hT5)) (fun e=>by have e2:w.heap.size+1=g:=e;omega))
  have m1:=fun x (hx:In T2 x)=>Ae (hT2b _ hx) (HU1.out.cell (p1 _ (hTR _ hT5)) (fun e=>by have e2:w.heap.size+1=g:=e;omega))
  have m2:=fun x (hx:In T2 x)=>Ae (hT2b _ hx) (HU1.out.cell (p2 _ (hTR _ hT5)) (fun e=>by have e2:w.heap.size+1=g:=e;omega))
  have e0:=fun x (hx:In T2 x)=>Hk.out.1 k x hlt (HBt.out x hx)
  have e1:=fun x (hx:In T2 x)=>Hk.out.2.1 k x hlt (HBt.out x hx)
  have e2:=fun x (hx:In T2 x)=>Hk.out.2.2.1 k x hlt (HBt.out x hx)
  have e3:=fun x (hx:In T2 x)=>Hk.out.2.2.2.1 k x hlt (HBt.out x hx)
  have e4:=fun x (hx:In T2 x)=>Hk.out.2.2.2.2.1 k x hlt (HBt.out x hx)
  have e5:=fun x (hx:In T2 x)=>Hk.out.2.2.2.2.2.1 k x hlt (HBt.out x hx)
  have e6:=fun x (hx:In T2 x)=>Hk.out.2.2.2.2.2.2 k x hlt (HBt.out x hx)
  have HTr:=zh (fun x (hx:In T2 x)=>SH (Ag l k) p _ _ _ _ _ _ _ _ _ _ x ((H5.out k hlt).store.below (HBt.out x hx)) ((H5.out k hlt).refs.below (HBt.out x hx)) (HP.out.1.below (HBt.out x hx)) (HP.out.2.below (HBt.out x hx)) ⟨Ai.shape3 (H5.out k hlt).objs,AJ.shape3 (H5.out k hlt).upds⟩);rw[hcm.vote] at HTr;have HDr:=zh (show DZ (Ag l k) p=⟨Fp (Ag l k) p,ES (Ag l k) p,(Ag l k).gen+1,0,CU⟩ from rfl);have Hge:=zh (HC.out.each k hlt).gen;generalize Fp (Ag l k) p=tl at*;generalize ES (Ag l k) p=tm at*;have Hcb:=zh hcb;clear hcb hcm hb q2 hq;go_upto_region 26 with fail;refine rh (In T2) ?_;have hC0:=hT2.drew _ hT21;generalize hx0:x1.drew=x0 at hC0⊢;clear hx0;refine tk 0 (.pointer (some ⟨w.heap.size,0,none⟩)) (fun w hSw=>?_) hC0 ?_
  ·go_simp
  simp only[tkS];refine tk 1 (.slice (some ⟨b0,off0,none⟩) 3 cap) (fun w hSw=>?_) hC0 ?_
  ·have yy:=n0 _ hSw;go_simp
  simp only[tkS];refine tk 2 (.int .i64 (k:Int)) (fun w hSw=>?_) hC0 ?_
  ·go_simp
  simp only[tkS];refine tk 3 (.pointer (some ⟨b0,off0+k*7,none⟩)) (fun w hSw=>?_) hC0 ?_
  ·go_simp
  simp only[tkS];refine tk 4 (.agg (c7 (Ag l k) (fr k).sa (fr k).sc (fr k).ra (fr k).rc (fr k).oa (fr k).oc (fr k).ua (fr k).uc)) (fun w hSw=>?_) hC0 ?_
  ·have y0:=e0 _ hSw;have y1:=e1 _ hSw;have y2:=e2 _ hSw;have y3:=e3 _ hSw;have y4:=e4 _ hSw;have y5:=e5 _ hSw;have y6:=e6 _ hSw;go_simp
  simp only[tkS];refine tk 5 (.agg #[.slice oap p.objects.length ocp,.slice uap p.updates.length ucp,.bool p.force]) (fun w hSw=>?_) hC0 ?_
  ·have y0:=m0 _ hSw;have y1:=m1 _ hSw;have y2:=m2 _ hSw;go_simp
  simp only[tkS];refine al1 6 ?_;refine Or.inl ?_;go_wp2_with fail;refine(HTr.out _ hC0).mono ?_;rintro e x11 ⟨tv,tu,rfl,hv,hm,hb1⟩;have hC1:=hT2n _ _ hC0 hb1;obtain⟨ta,tc,rfl⟩:=hv.vshape;obtain⟨⟨tma,tmc⟩,rfl⟩:=hm.shape;have hsx:=(HBt.out _ hC0).size;have hsy:=(hT2b _ hC0).size;have Hv:=zh (hv.lt.weaken (S':=fun b=>((A b∧b<w.heap.size)∨x1.heap.size≤b)∧b<x11.heap.size) fun b hb=>⟨by rcases hb.1 with(h|h|h)|h;exact .inl h;exact .inl h;exact .inl h;exact .inr (by omega),hb.2⟩);have Hm:=zh (hm.lt.weaken (S':=fun b=>((A b∧b<w.heap.size)∨x1.heap.size≤b)∧b<x11.heap.size) fun b hb=>⟨by rcases hb.1 with(h|h|h)|h;exact .inl h;exact .inl h;exact .inl h;exact .inr (by omega),hb.2⟩);clear hv hm hb1 hsx hsy;go_simp;refine tk 7 (.tuple #[.slice ta tl.length tc,.slice tma tm.length tmc,.int .i64 0]) (fun w hSw=>?_) hC1 ?_
  ·go_simp
  simp only[tkS];refine tk 8 (.slice ta tl.length tc) (fun w hSw=>?_) hC1 ?_
  ·go_simp
  simp only[tkS];refine tk 9 (.slice tma tm.length tmc) (fun w hSw=>?_) hC1 ?_
  ·go_simp
  simp only[tkS];refine tk 10 (.int .i64 0) (fun w hSw=>?_) hC1 ?_
  ·go_simp
  simp only[tkS];refine tk 11 (.slice ta tl.length tc) (fun w hSw=>?_) hC1 ?_
  ·go_simp
  simp only[tkS];refine tk 12 (.slice tma tm.length tmc) (fun w hSw=>?_) hC1 ?_
  ·go_simp
  simp only[tkS];refine tk 13 (.int .i64 0) (fun w hSw=>?_) hC1 ?_
  ·go_simp
  simp only[tkS];refine wpAnyH_done (by kernel_rfl) ?_ _;have cc:=n0 _ hC1;have y2:=e2 _ hC1;by_cases hgn:(Ag l k).gen=999
  case pos=>
    have q3:((Ag l k).gen==999)=true:=by simpa using hgn
    have HE2:=zh (HE4.out.trans (HLs.out 2 (by rw[HnE.out,if_pos ⟨Hdv.out,Hcb.out,hgn⟩]) (by decide)));have HL2:=zh (show Bf l p up late=[] by rw[HL0.out,HE2.out];rfl);have HD2:=zh (show Cf l p up late=false by rw[HD0.out,HE2.out];rfl);have HZW:=zh (Ab (HU1.out.blk (HZ.out _ (hTR _ hT5)) (fun e=>by have e2:w.heap.size+2=g:=e;omega)) (hT2b _ hC1));have HBW:=zh (HBt.out _ hC1);clear hgn HE4 HL0 HD0;have gz:=Aa (j:=0) HZW.out rfl;have fz:=Ad (j:=0) HZW.out;go_wp2_with fail;have hu5:=su (w.heap.size+2) 0 x11 (.slice none 0 0);have hk5:=sb HZW.out (.slice none 0 0);have hB5:=HBW.out.trans (hu5.below (B:=w.heap.size) HBW.out.size (fun b hb=>by have e2:b=w.heap.size+2:=hb;omega));generalize x11.setCell ⟨w.heap.size+2,0,none⟩ (.slice none 0 0)=x5 at*;have k0:=Aa (j:=0) hk5 rfl;refine bodyPost_ret (v:=.tuple #[.agg #[.slice none 0 0],.bool false,.int .i64 2]) (by simp[results,Tryz.results35,go_sem];simp[k0]<;>rfl) rfl ?_;refine⟨_,by rw[HD2.out,HE2.out]<;>rfl,by rw[HL2.out];exact Az.nil _ _ _ _ (by omega),hB5⟩
  have q3:((Ag l k).gen==999)=false:=by simpa using hgn
  have Hs2:=zh (show An (Dg l p up late) (k+1)=0 from Ay Hs.out (by rw[HnE.out,if_neg (fun h=>hgn h.2.2)]));have hwr:=Be (n:=(Ag l k).gen+1) (by have:=Hge.out;omega);go_upto_region 29 with fail;clear q3 hgn cc y2;have d5:=fun x (hx:In T2 x)=>Ae (hT2b _ hx) (HU1.out.cell (Aa (j:=0) HD5.out rfl) (fun e=>by have e2:D5=g:=e;omega))
  refine rh (In (fun x:World=>x.cell? ⟨D5,0,none⟩=some (.slice (some ⟨g,0,none⟩) 3 c4)∧x.cell? ⟨w.heap.size,0,none⟩=some (.slice (some ⟨b0,off0,none⟩) 3 cap)∧x.cell? ⟨b0,off0+k*7+2,none⟩=some (.int .i64 (Ag l k).gen))) ?_;have hT0:=hT2.drew _ hC1;have hy3:x11.heap.size≤x11.drew.heap.size:=Nat.le_refl _;have Hv3:=zh (Hv.out.below (Below.refl _ _).drew);have Hm3:=zh (Hm.out.below (Below.refl _ _).drew);generalize x11.drew=z0 at hT0 hy3 Hv3 Hm3⊢;have hS8:In (fun x:World=>x.cell? ⟨D5,0,none⟩=some (.slice (some ⟨g,0,none⟩) 3 c4)∧x.cell? ⟨w.heap.size,0,none⟩=some (.slice (some ⟨b0,off0,none⟩) 3 cap)∧x.cell? ⟨b0,off0+k*7+2,none⟩=some (.int .i64 (Ag l k).gen)) z0:=show(fun x:World=>x.cell? ⟨D5,0,none⟩=some (.slice (some ⟨g,0,none⟩) 3 c4)∧x.cell? ⟨w.heap.size,0,none⟩=some (.slice (some ⟨b0,off0,none⟩) 3 cap)∧x.cell? ⟨b0,off0+k*7+2,none⟩=some (.int .i64 (Ag l k).gen)) z0 from⟨d5 _ hT0,n0 _ hT0,e2 _ hT0⟩
  refine tk 0 (.pointer (some ⟨D5,0,none⟩)) (fun w hSw=>?_) hS8 ?_
  ·go_simp
  simp only[tkS];refine tk 1 (.slice (some ⟨g,0,none⟩) 3 c4) (fun w hSw=>?_) hS8 ?_
  ·have yy0:_∧_∧_:=hSw;have yy:=yy0.1;go_simp
  simp only[tkS];refine tk 2 (.int .i64 (k:Int)) (fun w hSw=>?_) hS8 ?_
  ·go_simp
  simp only[tkS];refine tk 3 (.slice ta tl.length tc) (fun w hSw=>?_) hS8 ?_
  ·go_simp
  simp only[tkS];refine tk 4 (.slice tma tm.length tmc) (fun w hSw=>?_) hS8 ?_
  ·go_simp
  simp only[tkS];refine tk 5 (.pointer (some ⟨w.heap.size,0,none⟩)) (fun w hSw=>?_) hS8 ?_
  ·go_simp
  simp only[tkS];refine tk 6 (.slice (some ⟨b0,off0,none⟩) 3 cap) (fun w hSw=>?_) hS8 ?_
  ·have yy0:_∧_∧_:=hSw;have yy:=yy0.2.1;go_simp
  simp only[tkS];refine tk 7 (.int .i64 (k:Int)) (fun w hSw=>?_) hS8 ?_
  ·go_simp
  simp only[tkS];refine tk 8 (.pointer (some ⟨b0,off0+k*7,none⟩)) (fun w hSw=>?_) hS8 ?_
  ·go_simp
  simp only[tkS];refine tk 9 (.pointer (some ⟨b0,off0+k*7+2,none⟩)) (fun w hSw=>?_) hS8 ?_
  ·go_simp
  simp only[tkS];refine tk 10 (.int .i64 (Ag l k).gen) (fun w hSw=>?_) hS8 ?_
  ·have yy0:_∧_∧_:=hSw;have yy:=yy0.2.2;go_simp
  simp only[tkS];refine tk 11 (.int .i64 ((Ag l k).gen+1)) (fun w hSw=>?_) hS8 ?_
  ·go_simp
  simp only[tkS];refine tk 12 (.agg #[.slice ta tl.length tc,.slice tma tm.length tmc,.int .i64 ((Ag l k).gen+1),.int .i64 0,.slice none 0 0,.slice none 0 0,.bool false]) (fun w hSw=>?_) hS8 ?_
  ·go_simp
  simp only[tkS];refine tk 13 (.pointer (some ⟨g,k*7,none⟩)) (fun w hSw=>?_) hS8 ?_
  ·go_simp
  simp only[tkS];refine al1 14 ?_;refine Or.inl ?_;have hyb:=hT2b _ hT0;have hOy:=HO1.out.below hyb;obtain⟨a9,n9,cap9,fr9,HN9,e9,_,_,_,h49,h59⟩:=(hOy.any (by have:=HLl.out;omega)).open;cases e9;obtain⟨b9,off9,e9,_,k0,k1,k2,k3,k4,k5,k6⟩:=h49 (by omega);cases e9;simp only[Nat.zero_add] at k0 k1 k2 k3 k4 k5 k6;have o0:=k0 k _ hlt (Below.refl _ _);have o1:=k1 k _ hlt (Below.refl _ _);have o2:=k2 k _ hlt (Below.refl _ _);have o3:=k3 k _ hlt (Below.refl _ _);have o4:=k4 k _ hlt (Below.refl _ _);have o5:=k5 k _ hlt (Below.refl _ _);have o6:=k6 k _ hlt (Below.refl _ _);have f0:=hOy.free (k*7);have f1:=hOy.free (k*7+1);have f2:=hOy.free (k*7+2);have f3:=hOy.free (k*7+3);have f4:=hOy.free (k*7+4);have f5:=hOy.free (k*7+5);have f6:=hOy.free (k*7+6);have hri:Ax (fun b=>((A b∧b<w.heap.size)∨x1.heap.size≤b)∧b<x11.heap.size) z0 (⟨tl,tm,(Ag l k).gen+1,0,CU⟩:Am) (.slice ta tl.length tc) (.slice tma tm.length tmc) (.slice none 0 0) (.slice none 0 0):=⟨Hv3.out,Hm3.out,Ai.nil _ _ _ _ (by omega),AJ.nil _ _ _ _ (by omega),(show Dy ((Ag l k).gen+1) from by have:=Hge.out;unfold Dy;omega),(show Dy 0 from by unfold Dy;omega)⟩;have hx1s:=HU1.out.size;have hz5:=Hz5.out;have hset:=hOy.set (i:=k) (r:=(⟨tl,tm,(Ag l k).gen+1,0,CU⟩:Am)) (x:=⟨.slice ta tl.length tc,.slice tma tm.length tmc,.slice none 0 0,.slice none 0 0⟩) (show k<L.length by rw[HLl.out];exact hlt) (S2:=fun b=>((A b∧b<w.heap.size)∨x1.heap.size≤b)∧b<x11.heap.size) hri (fun b hb=>⟨by omega,fun e=>by rcases hb.1 with h|h<;>omega⟩);have HEnd:=zh (show AK (fun b=>b=g) x5 (z0.setCells g (k*7) (Ba (⟨tl,tm,(Ag l k).gen+1,0,CU⟩:Am) ⟨.slice ta tl.length tc,.slice tma tm.length tmc,.slice none 0 0,.slice none 0 0⟩))∧BD (fun b=>((A b∧b<w.heap.size)∨w.heap.size+3≤b)∧b≠g∧b<(z0.setCells g (k*7) (Ba (⟨tl,tm,(Ag l k).gen+1,0,CU⟩:Am) ⟨.slice ta tl.length tc,.slice tma tm.length tmc,.slice none 0 0,.slice none 0 0⟩)).heap.size) (w.heap.size+3) (z0.setCells g (k*7) (Ba (⟨tl,tm,(Ag l k).gen+1,0,CU⟩:Am) ⟨.slice ta tl.length tc,.slice tma tm.length tmc,.slice none 0 0,.slice none 0 0⟩)) (.slice (some ⟨g,0,none⟩) 3 c4) (Ph l p up late (k+1)) from by
    rw[HnT.out,HDr.out];have hz:=hset.2.size;have hz1:=hyb.size;refine⟨(HU1.out.trans ((Dp hyb).weaken fun b hb h=>by have h1:x1.heap.size≤b:=h;omega) (fun _ _ h=>h)).trans hset.2 (fun _ _ h=>h),hset.1.weaken (fun b hb=>?_) (fun b hb=>⟨hb.2.2,fun e=>hb.2.1 (by cases e;rfl)⟩) (Nat.le_refl _)⟩;rcases hb with hb|hb
    ·exact⟨hb.1,hb.2.1,by omega⟩
    ·exact⟨hb.1.imp id (fun h=>by omega),(fun e=>by rcases hb.1 with h|h<;>omega),by omega⟩)
  have hS7:=(show(fun x:World=>x.cell? ⟨D5,0,none⟩=some (.slice (some ⟨g,0,none⟩) 3 c4)∧x.cell? ⟨w.heap.size,0,none⟩=some (.slice (some ⟨b0,off0,none⟩) 3 cap)∧x.cell? ⟨b0,off0+k*7+2,none⟩=some (.int .i64 (Ag l k).gen)) z0 from hS8);have HS9:=zh (show In (fun x:World=>x.cell? ⟨D5,0,none⟩=some (.slice (some ⟨g,0,none⟩) 3 c4)∧x.cell? ⟨w.heap.size,0,none⟩=some (.slice (some ⟨b0,off0,none⟩) 3 cap)∧x.cell? ⟨b0,off0+k*7+2,none⟩=some (.int .i64 (Ag l k).gen)) (z0.setCells g (k*7) (Ba (⟨tl,tm,(Ag l k).gen+1,0,CU⟩:Am) ⟨.slice ta tl.length tc,.slice tma tm.length tmc,.slice none 0 0,.slice none 0 0⟩)) from show(fun x:World=>x.cell? ⟨D5,0,none⟩=some (.slice (some ⟨g,0,none⟩) 3 c4)∧x.cell? ⟨w.heap.size,0,none⟩=some (.slice (some ⟨b0,off0,none⟩) 3 cap)∧x.cell? ⟨b0,off0+k*7+2,none⟩=some (.int .i64 (Ag l k).gen)) (z0.setCells g (k*7) (Ba (⟨tl,tm,(Ag l k).gen+1,0,CU⟩:Am) ⟨.slice ta tl.length tc,.slice tma tm.length tmc,.slice none 0 0,.slice none 0 0⟩)) from⟨hset.2.cell hS7.1 (fun e=>by have e2:D5=g:=e;omega),hset.2.cell hS7.2.1 (fun e=>by have e2:w.heap.size=g:=e;omega),hset.2.cell hS7.2.2 (fun e=>by have e2:b0=g:=e;have:=hb0.2;omega)⟩);clear hset hOy hyb hS8 hS7 hT0 h49 h59 hri HN9 k0 k1 k2 k3 k4 k5 k6;go_wp2_with fail
  first|refine⟨by kernel_rfl,?_⟩|refine⟨HS9.out,by kernel_rfl,?_⟩
  first|change Exit.then _ _ _ _ (z0.setCells g (k*7) (Ba (⟨tl,tm,(Ag l k).gen+1,0,CU⟩:Am) ⟨.slice ta tl.length tc,.slice tma tm.length tmc,.slice none 0 0,.slice none 0 0⟩))|change Exit.inBlock _ _ _ _ (z0.setCells g (k*7) (Ba (⟨tl,tm,(Ag l k).gen+1,0,CU⟩:Am) ⟨.slice ta tl.length tc,.slice tma tm.length tmc,.slice none 0 0,.slice none 0 0⟩))
  generalize z0.setCells g (k*7) (Ba (⟨tl,tm,(Ag l k).gen+1,0,CU⟩:Am) ⟨.slice ta tl.length tc,.slice tma tm.length tmc,.slice none 0 0,.slice none 0 0⟩)=w9 at*;go_wp2_with fail;go_roundw
  case rel=>exact⟨k+1,by omega,by go_num,Hs2.out,HEnd.out⟩
  case measure=>simp[intOf];omega
end Go.Proofs.YtgbnlmplkealdaaGreatDoor
