
/- StepD: StepD, StepE. -/
import Derived.Test.YtgbnlmplkealdaaGreatDoorC27
set_option linter.all false
set_option maxHeartbeats 4000000
set_option maxRecDepth 100000
namespace Go.Proofs.YtgbnlmplkealdaaGreatDoor
open Go.RowKit
variable [Ghost]
theorem Tk (r:Am) (sv rv ov uv:Value) (S:Nat→Prop) (w:World) (h:Ax S w r sv rv ov uv):
  Calls Tryz.prog 36 #[AO r sv rv ov uv] w fun e w'=>∃svt rvt,e=.returned (AO (DJ r) svt rvt (.slice none 0 0) (.slice none 0 0))∧Ax S w' (DJ r) svt rvt (.slice none 0 0) (.slice none 0 0)∧Below w.heap.size w w':=by
 have H:=zh h.lt;obtain⟨sa,sc,rfl⟩:=h.store.vshape;obtain⟨⟨ra,rc⟩,rfl⟩:=h.refs.shape;obtain⟨oa,oc,rfl⟩:=h.objs.vshape;obtain⟨⟨ua,uc⟩,rfl⟩:=h.upds.shape;clear h;simp only[AO];obtain⟨Q,hQ,hQ1,HB0⟩:=AF w [.cells (c7 r sa sc ra rc oa oc ua uc) 34,.cells #[.slice sa r.store.length sc,.slice ra r.refs.length rc,.int .i64 r.gen,.int .i64 0,.slice none 0 0,.slice none 0 0,.bool false] 34];simp only[List.foldl] at hQ1;have hb2:=hQ.below _ hQ1;have h1:((w.alloc (.cells (c7 r sa sc ra rc oa oc ua uc) 34)).alloc (.cells z7 34)).heap[w.heap.size]?=some (.cells (c7 r sa sc ra rc oa oc ua uc) 34 (0,0)):=by rw[Below.heap_alloc _ _ _ (by simp)];exact heap_alloc_new w _
 have h0:=heap_alloc_new w (.cells (c7 r sa sc ra rc oa oc ua uc) 34);have h2:=HB0 _ hQ1 1 _ rfl
 go_enter Tryz.func36, Tryz.ntmps36
 go_wp2_with fail;have Hb2:=zh hb2;generalize (w.alloc (.cells (c7 r sa sc ra rc oa oc ua uc) 34)).alloc (.cells #[.slice sa r.store.length sc,.slice ra r.refs.length rc,.int .i64 r.gen,.int .i64 0,.slice none 0 0,.slice none 0 0,.bool false] 34)=z at*;obtain⟨k0,k1,k2,k3,k4,k5,k6⟩:=bc7 h2;refine bodyPost_ret (v:=.agg #[.slice sa r.store.length sc,.slice ra r.refs.length rc,.int .i64 r.gen,.int .i64 0,.slice none 0 0,.slice none 0 0,.bool false]) (by simp[results,Tryz.results36,go_sem];simp[k0,k1,k2,k3,k4,k5,k6]<;>rfl) rfl ?_;have hr2:=H.out.below Hb2.out;exact⟨_,_,rfl,⟨hr2.store.weaken fun _ h=>h.1,hr2.refs.weaken fun _ h=>h.1,Ai.nil _ _ _ _ (by omega),AJ.nil _ _ _ _ (by omega),hr2.gen,by first|(show Dy 0;unfold Dy;decide)⟩,Hb2.out⟩
variable [Ghost]
end Go.Proofs.YtgbnlmplkealdaaGreatDoor
