
/- Inv: a region that draws its order, by an invariant. -/
import Derived.Test.YtgbnlmplkealdaaGreatDoorC0
set_option linter.all false
namespace Go.Proofs.YtgbnlmplkealdaaGreatDoor
open Go.RowKit
variable [Ghost]
def Ic (l:Array Bool):Nat→Nat
 |0=>0
 |k+1=>Ic l k+if l.getD k false=true then 1 else 0
theorem Uq (l:Array Bool):∀k,Ic l k≤k
 |0=>Nat.le_refl 0
 |k+1=>by have:=Uq l k;unfold Ic;split<;>omega
theorem Px {l:Array Bool}:∀{k:Nat},k≤Ic l k→∀i,i<k→l.getD i false=true
 |0,_,i,hi=>absurd hi (Nat.not_lt_zero _)
 | k+1,h,i,hi=>by
  have h1:=Uq l k;unfold Ic at h;split at h
  ·rename_i hk
   by_cases e:i=k
   ·rw[e];exact hk
   ·exact Px (k:=k) (by omega) i (by omega)
  ·omega
theorem Gn {l:Array Bool} {i:Nat} (h:l.getD i true=false):i<l.size∧l.getD i false=false:=by
 rcases Nat.lt_or_ge i l.size with h1|h1
 ·refine⟨h1,?_⟩
  simp only[Array.getD_eq_getD_getElem?,Array.getElem?_eq_getElem h1,Option.getD_some] at h⊢;exact h
 ·simp[Array.getD_eq_getD_getElem?,Array.getElem?_eq_none h1] at h
theorem Xv {l:Array Bool} {i:Nat} (hi:i<l.size) (j:Nat):(l.setIfInBounds i true).getD j false=if j=i then true else l.getD j false:=by
 simp only[Array.getD_eq_getD_getElem?,Array.getElem?_setIfInBounds];by_cases e:i=j
 ·subst e;simp[hi]
 ·rw[if_neg e,if_neg (fun h=>e h.symm)]
theorem Ro {l:Array Bool} {i:Nat} (h:l.getD i true=false):∀k,Ic (l.setIfInBounds i true) k=Ic l k+if i<k then 1 else 0
 |0=>rfl
 | k+1=>by
  obtain⟨hi,hf⟩:=Gn h;have ih:=Ro h k;unfold Ic;rw[ih,Xv hi];by_cases e:k=i
  ·subst e
   have h2:k<k+1:=by omega
   have h3:¬k<k:=by omega
   simp only[if_pos h2,if_neg h3,hf];simp
  ·rw[if_neg e]
   by_cases h1:i<k
   ·have h2:i<k+1:=by omega
    simp only[if_pos h1,if_pos h2];omega
   ·have h2:¬i<k+1:=by omega
    simp only[if_neg h1,if_neg h2];omega
section
variable {P:Program} {md:Region.Mode} {ops:Array Oper} {Q:Exit→Act→World→Prop}
end
section
variable {P:Program} {md:Region.Mode} {ops:Array Oper} {Q:Exit→Act→World→Prop}
end
section
variable {P:Program} {md:Region.Mode} {ops:Array Oper} {Q:Exit→Act→World→Prop} {S:World→Prop}
theorem LI {n:Nat} (hn:ops.size=n):∀(f g:Nat) (L:Array Bool) (a:Act) (w:World),L.size=n→n≤g+Ic L n→wpAnyH P md ops Q S f L a w→wpAnyH P md ops Q S g L a w
 | f,0,L,a,w,hs,hc,h=>by
  have hr:Region.ready md ops L=[]:=List.eq_nil_iff_forall_not_mem.2 fun j hj=>by
   obtain⟨h1,o,ho,_⟩:=mem_ready.1 hj;have h2:=(Gn h1).2;rw[Px (l:=L) (k:=n) (by omega) j (by rw[←hn];exact(Array.getElem?_eq_some_iff.1 ho).1)] at h2;cases h2
  match f,h with
  |0,h=>exact h
  |_+1,h=>exact⟨hr,h.1 hr⟩
 |0,_+1,L,a,w,hs,hc,h=>⟨fun _=>h.2,by rw[h.1];simp⟩
 | f+1,g+1,L,a,w,hs,hc,h=>⟨h.1,fun i hi=>wpOp_mono (fun a' w' h'=>⟨h'.1,LI hn f g _ a' w' (by simpa using hs) (by
   have h1:=(mem_ready.1 hi).1;have h2:=(Gn h1).1;rw[Ro h1,if_pos (by omega)];omega) h'.2⟩) (h.2 i hi)⟩
def SO (N:Nat) (z:Array Value) (t:TypeId) (g:Nat→Value) (b:Bool) (v:Value) (D:Nat) (x:World):Prop:=N≤x.heap.size∧(b=true→v=g D∧x.heap[D]?=some (.cells z t (0,0))∧N≤D)
def Gd (b:Bool) (D:Nat) (x:World) (m:Nat):Prop:=m<x.heap.size∧(b=true→m≠D)
theorem SO.lt {N D:Nat} {z:Array Value} {t:TypeId} {g:Nat→Value} {b:Bool} {v:Value} {x:World} (h:SO N z t g b v D x) (hb:b=true):D<x.heap.size:=by
 have:=(h.2 hb).2.1;rcases Nat.lt_or_ge D x.heap.size with h1|h1
 ·exact h1
 ·rw[Array.getElem?_eq_none h1] at this;cases this
theorem SO.below {N D:Nat} {z:Array Value} {t:TypeId} {g:Nat→Value} {b:Bool} {v:Value} {x y:World} (h:SO N z t g b v D x) (hb:Below x.heap.size x y):SO N z t g b v D y:=
 ⟨Nat.le_trans h.1 hb.size,fun e=>let⟨h1,h2,h3⟩:=h.2 e;⟨h1,(hb.block _ (h.lt e)).trans h2,h3⟩⟩
theorem Gd.below {D m:Nat} {b:Bool} {x y:World} (hb:Below x.heap.size x y) (h:Gd b D x m):Gd b D y m:=⟨Nat.lt_of_lt_of_le h.1 hb.size,h.2⟩
theorem SO.new {N D m:Nat} {z:Array Value} {t:TypeId} {g:Nat→Value} {b:Bool} {v:Value} {x y:World} (h:SO N z t g b v D x) (hm:x.heap.size≤m∧m<y.heap.size):Gd b D y m:=
 ⟨hm.2,fun e=>by have:=h.lt e;omega⟩
theorem aH {n:Nat} {M:Array Bool} {a:Act} {f:Nat} {x:World} {o:Oper} (b:Bool) (v:Value) (k i:Nat) (I:Bool→Value→World→Prop) (hI:I b v x)
  (hop:∀b v x,(b=false→(Region.ready md ops (M.setIfInBounds k false)).contains i=true)→I b v x→wpOp P ops Q i (fun a' w'=>S w'∧wpAnyH P md ops Q S n ((M.setIfInBounds i true).setIfInBounds k b) a' w') (a.put o.dst v) x)
  (hk:∀v x,I false v x→wpOp P ops Q k (fun a' w'=>S w'∧∃v',a'=a.put o.dst v'∧I true v' w') (a.put o.dst v) x)
  (hn:ops.size=n) (hs:M.size=n) (hik:i≠k)
  (hr:∀b,((Region.ready md ops (M.setIfInBounds k b)).all fun j=>j==i||(j==k && !b))=true) (hr0:∀b,(Region.ready md ops (M.setIfInBounds k b)).isEmpty=false)
  (hf:∀b,Nat.ble n (f+Ic (M.setIfInBounds k b) n)=true):wpAnyH P md ops Q S f (M.setIfInBounds k b) (a.put o.dst v) x:=by
 have hne:∀b,Region.ready md ops (M.setIfInBounds k b)≠[]:=fun b e=>by have:=hr0 b;rw[e] at this;cases this
 have hsz:∀b,(M.setIfInBounds k b).size=n:=fun b=>by simpa using hs
 have hc:∀b,(M.setIfInBounds k b).setIfInBounds i true=(M.setIfInBounds i true).setIfInBounds k b:=fun b=>Array.setIfInBounds_comm _ _ (fun e=>hik e.symm)
 have up:∀b v,wpAnyH P md ops Q S (n+1) (M.setIfInBounds k b) (a.put o.dst v) x→wpAnyH P md ops Q S f (M.setIfInBounds k b) (a.put o.dst v) x:=fun b v h=>LI hn _ _ _ _ _ (hsz b) (Nat.le_of_ble_eq_true (hf b)) h
 have ht:∀v x,I true v x→wpAnyH P md ops Q S (n+1) (M.setIfInBounds k true) (a.put o.dst v) x:=fun v x hI=>by
  refine⟨fun e=>absurd e (hne true),fun j hj=>?_⟩;have h1:=List.all_eq_true.1 (hr true) j hj;simp only[Bool.not_true,Bool.and_false,Bool.or_false,beq_iff_eq] at h1;subst h1;rw[hc];exact hop true v x (fun h=>by cases h) hI
 cases b with
 |true=>exact up true v (ht v x hI)
 | false=>
  refine up false v ⟨fun e=>absurd e (hne false),fun j hj=>?_⟩;have h1:=List.all_eq_true.1 (hr false) j hj;simp only[Bool.not_false,Bool.and_true,Bool.or_eq_true,beq_iff_eq] at h1;by_cases hkj:j=k
  ·subst hkj
   refine wpOp_mono (fun a' w' ⟨h1,v',h2,h3⟩=>⟨h1,?_⟩) (hk _ _ hI);subst h2;have e:(M.setIfInBounds j false).setIfInBounds j true=M.setIfInBounds j true:=by simp
   rw[e];exact LI hn (n+1) n _ _ _ (hsz true) (Nat.le_add_right _ _) (ht _ _ h3)
  ·rcases h1 with h1|h1
   ·subst h1
    rw[hc];exact hop false v x (fun _=>by simpa using hj) hI
   ·exact absurd h1 hkj
theorem UH {M:Array Bool} {k:Nat} {b:Bool} (i:Nat) {oi:Oper} (v:Value) {fuel:Nat} {a:Act} {w:World} (hy:∀w,S w→(execOp a.eval oi).run P w=.ok (.value v) w) (hS:S w)
  (h:wpAnyH P md ops Q S fuel ((M.setIfInBounds i true).setIfInBounds k b) (a.put oi.dst v) w) (hi:ops[i]?=some oi:=by rfl) (hs:Region.noSelect ops=true:=by kernel_rfl) (hik:i≠k:=by decide)
  (hf:∀b,Region.free md ops (M.setIfInBounds k b) i=true:=by intro b;cases b<;>kernel_rfl) (hr:∀b,(Region.ready md ops (M.setIfInBounds k b)).contains i=true:=by intro b;cases b<;>kernel_rfl)
  (hQ:∀c a w,Q (.panic c) (a.put oi.dst v) w→Q (.panic c) a w:=by exact fun _ _ _ h=>h) (hw:Region.wanted oi (yielded ops a.tmps)=true:=by rfl):wpAnyH P md ops Q S (fuel+1) (M.setIfInBounds k b) a w:=by
 refine wpAnyH_take hi hs (hf b) (hr b) hQ (Or.inl ⟨hw,hy⟩) hS ?_;rw[Array.setIfInBounds_comm _ _ (fun e=>hik e.symm)];exact h
theorem aU {n:Nat} {M:Array Bool} {a:Act} {f:Nat} {x:World} {o:Oper} {u:Value} (b:Bool) (v:Value) (k i:Nat) (hv:b=true→v=u) (hS:S x) (hld:(execOp a.eval o).run P x=.ok (.value u) x)
  (hop:∀b v,(b=false→(Region.ready md ops (M.setIfInBounds k false)).contains i=true)→(b=true→v=u)→wpOp P ops Q i (fun a' w'=>S w'∧wpAnyH P md ops Q S n ((M.setIfInBounds i true).setIfInBounds k b) a' w') (a.put o.dst v) x)
  (ho:ops[k]?=some o) (hns:Region.noSelect ops=true) (hself:(o.dst.all fun d=>!(o.looksAt ops).contains d)=true) (hw:Region.wanted o (yielded ops a.tmps)=true)
  (hn:ops.size=n) (hs:M.size=n) (hik:i≠k)
  (hr:∀b,((Region.ready md ops (M.setIfInBounds k b)).all fun j=>j==i||(j==k && !b))=true) (hr0:∀b,(Region.ready md ops (M.setIfInBounds k b)).isEmpty=false)
  (hf:∀b,Nat.ble n (f+Ic (M.setIfInBounds k b) n)=true):wpAnyH P md ops Q S f (M.setIfInBounds k b) (a.put o.dst v) x:=
 have hd:∀d,o.dst=some d→d∉o.looksAt ops:=fun d hd=>by simpa[hd] using hself
 aH b v k i (fun b v y=>y=x∧(b=true→v=u)) ⟨rfl,hv⟩ (fun b v y h hI=>by obtain⟨rfl,hI⟩:=hI;exact hop b v h hI)
  (fun v y h=>YieldsIf.wpOp (S:=fun y=>y=x) ho (Or.inl ⟨(wanted_put o a o.dst v hd).trans hw,fun w hw=>by rw[execOp_put (ops:=ops) o (fun cs b=>Region.noSelect_spec hns k o cs b ho) a o.dst v hd,hw];exact hld⟩) h.1 (by obtain⟨rfl,_⟩:=h;exact⟨hS,u,by cases o;rename_i d _ _ _ _ _;cases d<;>simp[Act.put],rfl,fun _=>rfl⟩)) hn hs hik hr hr0 hf
theorem bD {n:Nat} {M:Array Bool} {a:Act} {f:Nat} {x:World} {o:Oper} (u:Value) (k i:Nat) (hS:S x) (hld:(execOp a.eval o).run P x=.ok (.value u) x)
  (hop:∀b v,(b=true→v=u)→wpOp P ops Q i (fun a' w'=>S w'∧wpAnyH P md ops Q S n ((M.setIfInBounds i true).setIfInBounds k b) a' w') (a.put o.dst v) x)
  (ho:ops[k]?=some o:=by rfl) (hns:Region.noSelect ops=true:=by kernel_rfl) (hself:(o.dst.all fun d=>!(o.looksAt ops).contains d)=true:=by kernel_rfl) (hw:Region.wanted o (yielded ops a.tmps)=true:=by rfl) (hL:M.setIfInBounds k false=M:=by rfl) (hA:∃v0,a.put o.dst v0=a:=by exact⟨_,rfl⟩)
  (hn:ops.size=n:=by rfl) (hs:M.size=n:=by rfl) (hik:i≠k:=by decide)
  (hr:∀b,((Region.ready md ops (M.setIfInBounds k b)).all fun j=>j==i||(j==k && !b))=true:=by intro b;cases b<;>kernel_rfl) (hr0:∀b,(Region.ready md ops (M.setIfInBounds k b)).isEmpty=false:=by intro b;cases b<;>kernel_rfl)
  (hf:∀b,Nat.ble n (f+Ic (M.setIfInBounds k b) n)=true:=by intro b;cases b<;>kernel_rfl):wpAnyH P md ops Q S f M a x:=by
 obtain⟨v0,hA⟩:=hA;have:=aU (Q:=Q) (f:=f) (u:=u) false v0 k i (fun h=>by cases h) hS hld (fun b v _=>hop b v) ho hns hself hw hn hs hik hr hr0 hf
 rwa [hL,hA] at this
theorem bE {n:Nat} {M:Array Bool} {a:Act} {f:Nat} {x:World} {o:Oper} {u:Value} {b:Bool} {v:Value} (k i:Nat) (hv:b=true→v=u) (hS:S x) (hld:(execOp a.eval o).run P x=.ok (.value u) x)
  (hop:∀b v,(b=true→v=u)→wpOp P ops Q i (fun a' w'=>S w'∧wpAnyH P md ops Q S n ((M.setIfInBounds i true).setIfInBounds k b) a' w') (a.put o.dst v) x)
  (ho:ops[k]?=some o:=by rfl) (hns:Region.noSelect ops=true:=by kernel_rfl) (hself:(o.dst.all fun d=>!(o.looksAt ops).contains d)=true:=by kernel_rfl) (hw:Region.wanted o (yielded ops a.tmps)=true:=by rfl) (hA:a.put o.dst v=a:=by rfl)
  (hn:ops.size=n:=by rfl) (hs:M.size=n:=by rfl) (hik:i≠k:=by decide)
  (hr:∀b,((Region.ready md ops (M.setIfInBounds k b)).all fun j=>j==i||(j==k && !b))=true:=by intro b;cases b<;>kernel_rfl) (hr0:∀b,(Region.ready md ops (M.setIfInBounds k b)).isEmpty=false:=by intro b;cases b<;>kernel_rfl)
  (hf:∀b,Nat.ble n (f+Ic (M.setIfInBounds k b) n)=true:=by intro b;cases b<;>kernel_rfl):wpAnyH P md ops Q S f (M.setIfInBounds k b) a x:=by
 have:=aU (Q:=Q) (f:=f) (u:=u) b v k i hv hS hld (fun b v _=>hop b v) ho hns hself hw hn hs hik hr hr0 hf
 rwa [hA] at this
theorem bF {n:Nat} {M:Array Bool} {a:Act} {f:Nat} {x:World} {o:Oper} {u:Value} {b:Bool} {v:Value} (k i:Nat) (hv:b=true→v=u) (hS:S x) (hld:(execOp a.eval o).run P x=.ok (.value u) x)
  (hop:wpOp P ops Q i (fun a' w'=>S w'∧wpAnyH P md ops Q S n ((M.setIfInBounds i true).setIfInBounds k true) a' w') (a.put o.dst u) x)
  (ho:ops[k]?=some o:=by rfl) (hns:Region.noSelect ops=true:=by kernel_rfl) (hself:(o.dst.all fun d=>!(o.looksAt ops).contains d)=true:=by kernel_rfl) (hw:Region.wanted o (yielded ops a.tmps)=true:=by rfl) (hA:a.put o.dst v=a:=by rfl)
  (hn:ops.size=n:=by rfl) (hs:M.size=n:=by rfl) (hik:i≠k:=by decide)
  (hr:∀b,((Region.ready md ops (M.setIfInBounds k b)).all fun j=>j==i||(j==k && !b))=true:=by intro b;cases b<;>kernel_rfl) (hr0:∀b,(Region.ready md ops (M.setIfInBounds k b)).isEmpty=false:=by intro b;cases b<;>kernel_rfl)
  (hf:∀b,Nat.ble n (f+Ic (M.setIfInBounds k b) n)=true:=by intro b;cases b<;>kernel_rfl) (hz:(Region.ready md ops (M.setIfInBounds k false)).contains i=false:=by kernel_rfl):wpAnyH P md ops Q S f (M.setIfInBounds k b) a x:=by
 have:=aU (Q:=Q) (f:=f) (u:=u) b v k i hv hS hld (fun b v h hI=>by
  cases b with
  |false=>rw[hz] at h;cases h rfl
  |true=>obtain rfl:=hI rfl;exact hop) ho hns hself hw hn hs hik hr hr0 hf
 rwa [hA] at this
end
section
variable {P:Program} {md:Region.Mode} {ops:Array Oper} {Q:Exit→Act→World→Prop} {R:World→Prop} {w0:World}
theorem aS {n:Nat} {M:Array Bool} {a:Act} {f D:Nat} {x:World} {o:Oper} {z:Array Value} {t:TypeId} {g:Nat→Value} (b:Bool) (v:Value) (k i:Nat) (F:(Nat→Prop)→World→Prop) (hQ:SL w0 R)
  (hx:In R x) (hd:SO w0.heap.size z t g b v D x) (hF:F (Gd b D x) x) (hFm:∀U V x y,Below x.heap.size x y→(∀m,U m→V m)→F U x→F V y)
  (hop:∀b v D x,(b=false→(Region.ready md ops (M.setIfInBounds k false)).contains i=true)→In R x→SO w0.heap.size z t g b v D x→F (Gd b D x) x→wpOp P ops Q i (fun a' w'=>In R w'∧wpAnyH P md ops Q (In R) n ((M.setIfInBounds i true).setIfInBounds k b) a' w') (a.put o.dst v) x)
  (hal:∀v x K,K (a.put o.dst (g x.heap.size)) (x.alloc (.cells z t))→wpOp P ops Q k K (a.put o.dst v) x)
  (hn:ops.size=n) (hs:M.size=n) (hik:i≠k)
  (hr:∀b,((Region.ready md ops (M.setIfInBounds k b)).all fun j=>j==i||(j==k && !b))=true) (hr0:∀b,(Region.ready md ops (M.setIfInBounds k b)).isEmpty=false)
  (hf:∀b,Nat.ble n (f+Ic (M.setIfInBounds k b) n)=true):wpAnyH P md ops Q (In R) f (M.setIfInBounds k b) (a.put o.dst v) x:=
 aH b v k i (fun b v x=>∃D,In R x∧SO w0.heap.size z t g b v D x∧F (Gd b D x) x) ⟨D,hx,hd,hF⟩ (fun b v x h ⟨D,h1,h2,h3⟩=>hop b v D x h h1 h2 h3)
  (fun v x ⟨D,hx,hd,hF⟩=>hal _ _ _ (by
   have hb:Below x.heap.size x (x.alloc (.cells z t)):=bal;exact⟨hQ.alloc _ _ hx,_,rfl,x.heap.size,hQ.alloc _ _ hx,⟨Nat.le_trans hd.1 hb.size,fun _=>⟨rfl,heap_alloc_new x _,hd.1⟩⟩,hFm _ _ _ _ hb (fun m hm=>⟨Nat.lt_of_lt_of_le hm.1 hb.size,fun _=>by have:=hm.1;omega⟩) hF⟩)) hn hs hik hr hr0 hf
theorem aR {n:Nat} {M:Array Bool} {a:Act} {f:Nat} {x:World} {o:Oper} (z:Array Value) (t:TypeId) (g:Nat→Value) (k i:Nat) (F:(Nat→Prop)→World→Prop) (hQ:SL w0 R) (hx:In R x) (hF:F (fun m=>m<x.heap.size) x) (hFm:∀U V x y,Below x.heap.size x y→(∀m,U m→V m)→F U x→F V y)
  (hop:∀b v D x,In R x→SO w0.heap.size z t g b v D x→F (Gd b D x) x→wpOp P ops Q i (fun a' w'=>In R w'∧wpAnyH P md ops Q (In R) n ((M.setIfInBounds i true).setIfInBounds k b) a' w') (a.put o.dst v) x)
  (ho:ops[k]?=some o:=by rfl)
  (hal:∀v x K,K (a.put o.dst (g x.heap.size)) (x.alloc (.cells z t))→wpOp P ops Q k K (a.put o.dst v) x:=by intro v x K hK;simp only[tkS] at hK⊢;refine Or.inl ?_;go_wp2_with fail;exact hK)
  (hL:M.setIfInBounds k false=M:=by rfl) (hA:∃v0,a.put o.dst v0=a:=by exact⟨_,rfl⟩)
  (hn:ops.size=n:=by rfl) (hs:M.size=n:=by rfl) (hik:i≠k:=by decide)
  (hr:∀b,((Region.ready md ops (M.setIfInBounds k b)).all fun j=>j==i||(j==k && !b))=true:=by intro b;cases b<;>kernel_rfl) (hr0:∀b,(Region.ready md ops (M.setIfInBounds k b)).isEmpty=false:=by intro b;cases b<;>kernel_rfl)
  (hf:∀b,Nat.ble n (f+Ic (M.setIfInBounds k b) n)=true:=by intro b;cases b<;>kernel_rfl):wpAnyH P md ops Q (In R) f M a x:=by
 obtain⟨v0,hA⟩:=hA;have:=aS (P:=P) (Q:=Q) (a:=a) (f:=f) (D:=0) (x:=x) (o:=o) (z:=z) (t:=t) (g:=g) false v0 k i F hQ hx ⟨(hQ.below _ hx).size,fun h=>by cases h⟩ (hFm _ _ _ _ (Below.refl _ _) (fun m hm=>⟨hm,fun h=>by cases h⟩) hF) hFm
  (fun b v D x _=>hop b v D x) hal hn hs hik hr hr0 hf
 rwa [hL,hA] at this
theorem aO {n:Nat} {M:Array Bool} {a:Act} {f:Nat} {x:World} {o:Oper} (z:Array Value) (t:TypeId) (g:Nat→Value) (k i:Nat) (hQ:SL w0 R) (hx:In R x)
  (hop:∀b v D x,In R x→SO w0.heap.size z t g b v D x→wpOp P ops Q i (fun a' w'=>In R w'∧wpAnyH P md ops Q (In R) n ((M.setIfInBounds i true).setIfInBounds k b) a' w') (a.put o.dst v) x)
  (ho:ops[k]?=some o:=by rfl)
  (hal:∀v x K,K (a.put o.dst (g x.heap.size)) (x.alloc (.cells z t))→wpOp P ops Q k K (a.put o.dst v) x:=by intro v x K hK;simp only[tkS] at hK⊢;refine Or.inl ?_;go_wp2_with fail;exact hK)
  (hL:M.setIfInBounds k false=M:=by rfl) (hA:∃v0,a.put o.dst v0=a:=by exact⟨_,rfl⟩)
  (hn:ops.size=n:=by rfl) (hs:M.size=n:=by rfl) (hik:i≠k:=by decide)
  (hr:∀b,((Region.ready md ops (M.setIfInBounds k b)).all fun j=>j==i||(j==k && !b))=true:=by intro b;cases b<;>kernel_rfl) (hr0:∀b,(Region.ready md ops (M.setIfInBounds k b)).isEmpty=false:=by intro b;cases b<;>kernel_rfl)
  (hf:∀b,Nat.ble n (f+Ic (M.setIfInBounds k b) n)=true:=by intro b;cases b<;>kernel_rfl):wpAnyH P md ops Q (In R) f M a x:=
 aR z t g k i (fun _ _=>True) hQ hx trivial (fun _ _ _ _ _ _ _=>trivial) (fun b v D x h1 h2 _=>hop b v D x h1 h2) ho hal hL hA hn hs hik hr hr0 hf
theorem aE {n:Nat} {M:Array Bool} {a:Act} {f D:Nat} {x:World} {o:Oper} {z:Array Value} {t:TypeId} {g:Nat→Value} {b:Bool} {v:Value} (k i:Nat) (F:(Nat→Prop)→World→Prop) (hQ:SL w0 R) (hx:In R x) (hd:SO w0.heap.size z t g b v D x)
  (hF:F (Gd b D x) x) (hFm:∀U V x y,Below x.heap.size x y→(∀m,U m→V m)→F U x→F V y)
  (hop:∀b v D x,In R x→SO w0.heap.size z t g b v D x→F (Gd b D x) x→wpOp P ops Q i (fun a' w'=>In R w'∧wpAnyH P md ops Q (In R) n ((M.setIfInBounds i true).setIfInBounds k b) a' w') (a.put o.dst v) x)
  (ho:ops[k]?=some o:=by rfl)
  (hal:∀v x K,K (a.put o.dst (g x.heap.size)) (x.alloc (.cells z t))→wpOp P ops Q k K (a.put o.dst v) x:=by intro v x K hK;simp only[tkS] at hK⊢;refine Or.inl ?_;go_wp2_with fail;exact hK)
  (hA:a.put o.dst v=a:=by rfl)
  (hn:ops.size=n:=by rfl) (hs:M.size=n:=by rfl) (hik:i≠k:=by decide)
  (hr:∀b,((Region.ready md ops (M.setIfInBounds k b)).all fun j=>j==i||(j==k && !b))=true:=by intro b;cases b<;>kernel_rfl) (hr0:∀b,(Region.ready md ops (M.setIfInBounds k b)).isEmpty=false:=by intro b;cases b<;>kernel_rfl)
  (hf:∀b,Nat.ble n (f+Ic (M.setIfInBounds k b) n)=true:=by intro b;cases b<;>kernel_rfl):wpAnyH P md ops Q (In R) f (M.setIfInBounds k b) a x:=by
 have:=aS (P:=P) (Q:=Q) (a:=a) (f:=f) (o:=o) b v k i F hQ hx hd hF hFm (fun b v D x _=>hop b v D x) hal hn hs hik hr hr0 hf
 rwa [hA] at this
theorem aF {n:Nat} {M:Array Bool} {a:Act} {f D:Nat} {x:World} {o:Oper} {z:Array Value} {t:TypeId} {g:Nat→Value} {b:Bool} {v:Value} (k i:Nat) (F:(Nat→Prop)→World→Prop) (hQ:SL w0 R) (hx:In R x) (hd:SO w0.heap.size z t g b v D x)
  (hF:F (Gd b D x) x) (hFm:∀U V x y,Below x.heap.size x y→(∀m,U m→V m)→F U x→F V y)
  (hop:∀D x,In R x→w0.heap.size≤D→x.heap[D]?=some (.cells z t (0,0))→F (fun m=>m<x.heap.size∧m≠D) x→wpOp P ops Q i (fun a' w'=>In R w'∧wpAnyH P md ops Q (In R) n ((M.setIfInBounds i true).setIfInBounds k true) a' w') (a.put o.dst (g D)) x)
  (ho:ops[k]?=some o:=by rfl)
  (hal:∀v x K,K (a.put o.dst (g x.heap.size)) (x.alloc (.cells z t))→wpOp P ops Q k K (a.put o.dst v) x:=by intro v x K hK;simp only[tkS] at hK⊢;refine Or.inl ?_;go_wp2_with fail;exact hK)
  (hA:a.put o.dst v=a:=by rfl)
  (hn:ops.size=n:=by rfl) (hs:M.size=n:=by rfl) (hik:i≠k:=by decide)
  (hr:∀b,((Region.ready md ops (M.setIfInBounds k b)).all fun j=>j==i||(j==k && !b))=true:=by intro b;cases b<;>kernel_rfl) (hr0:∀b,(Region.ready md ops (M.setIfInBounds k b)).isEmpty=false:=by intro b;cases b<;>kernel_rfl)
  (hf:∀b,Nat.ble n (f+Ic (M.setIfInBounds k b) n)=true:=by intro b;cases b<;>kernel_rfl) (hw:(Region.ready md ops (M.setIfInBounds k false)).contains i=false:=by kernel_rfl):wpAnyH P md ops Q (In R) f (M.setIfInBounds k b) a x:=by
 have:=aS (P:=P) (Q:=Q) (a:=a) (f:=f) (o:=o) b v k i F hQ hx hd hF hFm (fun b v D x h hx hd hF=>by
  cases b with
  |false=>rw[hw] at h;cases h rfl
  |true=>
   obtain⟨rfl,h2,h3⟩:=hd.2 rfl;exact hop D x hx h3 h2 (hFm _ _ _ _ (Below.refl _ _) (fun m hm=>⟨hm.1,hm.2 rfl⟩) hF)) hal hn hs hik hr hr0 hf
 rwa [hA] at this
end
end Go.Proofs.YtgbnlmplkealdaaGreatDoor
