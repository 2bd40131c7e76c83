/- Walks: the law's own first test of objects. -/
import Derived.Test.YtcppgkhkijejoaaDec
import Derived.Test.YtcppgkhkijejoaaDrawn
namespace Go.Proofs.Ytcppgkhkijejoaa
open Go.RowKit
set_option linter.unusedVariables false
set_option linter.unusedSimpArgs false

def o5 : Obj := ⟨5, 3, [4, 3], tee⟩
def o31 : Obj := ⟨3, 1, [1], tee⟩
def s5 : ByteArray := ⟨#[5, 3, 2, 4, 3, 1, 116]⟩
def s5z : ByteArray := ⟨#[5, 3, 2, 4, 3, 1, 116, 122]⟩
def s3 : ByteArray := ⟨#[5, 3, 2]⟩

theorem begun_check : checkObj o5 = 0 := by decide +kernel
theorem begun_form : checkObj o31 = 1 := by decide +kernel
theorem begun_enc : encE o5 = s5 := by
  unfold encE; rw [begun_check, if_pos rfl]; rfl
theorem begun_raw : rawOk s5z := by decide +kernel
theorem begun_obj : rawObj s5z = o5 := by rfl
theorem begun_decE : decE s5z = 0 := by unfold decE; rw [if_pos begun_raw, begun_obj, begun_check]
theorem begun_decO : decO s5z = o5 := by unfold decO; rw [begun_decE, if_pos rfl, begun_obj]
theorem begun_decN : decN s5z = 7 := by unfold decN; rw [begun_decE, if_pos rfl]; rfl
theorem begun_none : decE s3 = 5 := by unfold decE; rw [if_neg (by decide +kernel)]

/-- the fifth of shelf -/
theorem shelf_five {S : Nat → Prop} {w : World} {v : Value} (h : StoreV S w v shelfL) : ∃ b off cap a2 c2, v = .slice (some ⟨b, off, none⟩) 5 cap ∧ 5 ≤ cap ∧
    (∀ x, Below w.heap.size w x → x.cell? ⟨b, off + 16, none⟩ = some (.int .i64 5)) ∧ (∀ x, Below w.heap.size w x → x.cell? ⟨b, off + 17, none⟩ = some (.int .i64 3)) ∧
    (∀ x, Below w.heap.size w x → x.cell? ⟨b, off + 18, none⟩ = some (.slice a2 2 c2)) ∧ (∀ x, Below w.heap.size w x → x.cell? ⟨b, off + 19, none⟩ = some (.string tee)) ∧ ObjIs S w o5 (.slice a2 2 c2) := by
  obtain ⟨a, n, cap, la, ln, lc, HN, rfl, h1, h2, h3, h4, h5⟩ := h.open
  have hn : n = 5 := HN.out.1
  subst hn
  obtain ⟨b, off, rfl, _, k0, k1, k2, k3⟩ := h4 (by omega)
  have hl : ln 4 = 2 := HN.out.2 4
  refine ⟨b, off, cap, la 4, lc 4, rfl, h1, fun x hx => k0 4 x (by omega) hx, fun x hx => k1 4 x (by omega) hx, fun x hx => ?_, fun x hx => k3 4 x (by omega) hx, ?_⟩
  · have := k2 4 x (by omega) hx; rw [hl] at this; exact this
  · have := h5 4 (by omega); rw [hl] at this; exact this

theorem begun_same : sameObj o5 o5 = true := (sameObj_iff _ _).2 rfl
theorem begun_zero : decO s3 = obj0 := by unfold decO; rw [begun_none]; rfl

theorem o31_is {x wb : World} {t : TypeId} (h : Below (x.alloc (.cells #[.int .i64 1] t)).heap.size (x.alloc (.cells #[.int .i64 1] t)) wb) : ObjIs (fun _ => True) wb o31 (.slice (some ⟨x.heap.size, 0, none⟩) 1 1) := by
  have hi := ints_new x [1] t _ rfl (by simp) (by intro y hy; simp only [List.mem_cons, List.not_mem_nil, or_false] at hy; subst hy; exact small64 _ (by omega))
  exact ⟨(hi.below h).weaken fun _ _ => trivial, small64 _ (by decide), small64 _ (by decide), by decide⟩

set_option maxRecDepth 100000 in
set_option maxHeartbeats 4000000 in
theorem objectBegun_any (w : World) : Calls Try.prog 17 #[] w fun e w' => e = .returned (.bool true) ∧ Below w.heap.size w w' := by
  obtain ⟨R, hR, hR1, hRall⟩ := cls_plain w
  have hRb := hR.below
  have hRn := hR.next
  have hRa := hR.alloc
  go_enter Try.func17, Try.ntmps17
  go_wp2_with fail
  refine (shelf_any _).mono ?_
  rintro e w1 ⟨v1, rfl, hv1, hb1⟩
  have hR2 := hRn _ _ hR1 hb1
  obtain ⟨b, off, cap, a2, c2, rfl, hcap, k0, k1, k2, k3, ho5⟩ := shelf_five hv1
  have k0 := k0 w1 (Below.refl _ _)
  have k1 := k1 w1 (Below.refl _ _)
  have k2 := k2 w1 (Below.refl _ _)
  have k3 := k3 w1 (Below.refl _ _)
  go_wp2_with fail
  have hE := encode_any o5 _ _ _ ho5
  rw [begun_enc, begun_check] at hE
  refine hE.mono ?_
  rintro e w2 ⟨rfl, hb2⟩
  have hR3 := hRn _ _ hR2 hb2
  clear k0 k1 k2 k3 hE ho5 hb1 hb2 hv1 hR2
  unfold s5
  go_wp2_with fail
  have hD := decode_any s5z w2 (by decide)
  unfold DecIs at hD
  rw [begun_decO, begun_decN, begun_decE] at hD
  refine hD.mono ?_
  rintro e w3 ⟨⟨lv, rfl, ho⟩, hb3⟩
  have hR4 := hRn _ _ hR3 hb3
  obtain ⟨q, hq⟩ := ho.1.shape
  subst hq
  clear hD
  go_wp2_with fail
  obtain ⟨Q, hQ, hQ1, x0, x1, x2, x3⟩ := cls_box4 w3 (.int .i64 o5.id) (.int .i64 o5.kind) (.slice q.1 o5.links.length q.2) (.string o5.text) 24
  have hQb := hQ.below
  have hQn := hQ.next
  have hQa := hQ.alloc
  have hQd := hQ.drew
  have hD := decode_any s3 (w3.alloc (.cells #[.int .i64 o5.id, .int .i64 o5.kind, .slice q.1 o5.links.length q.2, .string o5.text] 24)) (by decide)
  unfold DecIs at hD
  rw [begun_none, begun_zero] at hD
  refine hD.mono ?_
  rintro e w4 ⟨⟨lv', rfl, ho'⟩, hb4⟩
  obtain ⟨q', hq'⟩ := ho'.1.shape
  subst hq'
  have hQ2 := hQn _ _ hQ1 hb4
  have hF := Lib.hid (below_next (hRb _ hR4) (hQb _ hQ2))
  have hfin : ∀ x, In Q x → Below w.heap.size w x := fun x hx => below_next (hRb _ hR4) (hQb _ hx)
  have Hfin := Lib.hid hfin
  have Ho := Lib.hid ho
  clear hfin hD ho ho' hb4 hQ1 hb3 hR1 hRall hRb hRn hRa hR3 hR4 k0 k1 k2 k3
  have hbc := begun_check
  have hbf := begun_form
  have hbs := begun_same
  go_wp2_with fail
  have hQ3 := hQa _ (.cells #[.int .i64 obj0.id, .int .i64 obj0.kind, .slice q'.1 obj0.links.length q'.2, .string obj0.text] 24) hQ2
  refine any_start (by kernel_rfl) rfl ?_
  refine any_one 0 (by kernel_rfl) rfl (by rfl) (fun K hK => ?_)
  go_wp2_with fail
  refine (shelf_any _).mono ?_
  rintro e wa8 ⟨va, rfl, hva, hba⟩
  have hQ8 := hQn _ _ (hQd _ hQ3) hba
  obtain ⟨b8, off8, cap8, a8, c8, rfl, hcap8, k0, k1, k2, k3, ho8⟩ := shelf_five hva
  have z08 := k0 wa8 (Below.refl _ _)
  have z18 := k1 wa8 (Below.refl _ _)
  have z28 := k2 wa8 (Below.refl _ _)
  have z38 := k3 wa8 (Below.refl _ _)
  clear k0 k1 k2 k3 hva hba
  go_wp2_with fail
  refine any_one 1 (by kernel_rfl) rfl (by rfl) (fun K hK => ?_)
  go_wp2_with fail
  refine any_one 2 (by kernel_rfl) rfl (by rfl) (fun K hK => ?_)
  go_wp2_with fail
  refine any_one 3 (by kernel_rfl) rfl (by rfl) (fun K hK => ?_)
  go_wp2_with fail
  refine (check_any o5 _ _ _ ho8).mono ?_
  rintro e wb ⟨rfl, hbb⟩
  have hQ9 := hQn _ _ hQ8 hbb
  clear hbb z08 z18 z28 z38 ho8 hQ8
  go_wp2_with fail
  refine any_one 4 (by kernel_rfl) rfl (by rfl) (fun K hK => ?_)
  go_wp2_with fail
  refine any_one 5 (by kernel_rfl) rfl (by rfl) (fun K hK => ?_)
  go_wp2_with fail
  refine any_one 6 (by kernel_rfl) rfl (by rfl) (fun K hK => ?_)
  go_wp2_with fail
  refine any_one 7 (by kernel_rfl) rfl (by rfl) (fun K hK => ?_)
  go_wp2_with fail
  refine (obj_any _ _ _ _ _ _).mono ?_
  rintro e wc ⟨rfl, hbb⟩
  have hQ10 := hQn _ _ (hQa _ _ hQ9) hbb
  have h31 := o31_is hbb
  clear hbb hQ9
  go_wp2_with fail
  refine any_one 8 (by kernel_rfl) rfl (by rfl) (fun K hK => ?_)
  go_wp2_with fail
  refine (check_any o31 _ _ _ h31).mono ?_
  rintro e wd ⟨rfl, hbb⟩
  have hQ11 := hQn _ _ hQ10 hbb
  clear hbb hQ10 h31
  go_wp2_with fail
  refine any_one 9 (by kernel_rfl) rfl (by rfl) (fun K hK => ?_)
  go_wp2_with fail
  refine any_one 10 (by kernel_rfl) rfl (by rfl) (fun K hK => ?_)
  go_wp2_with fail
  refine any_one 11 (by kernel_rfl) rfl (by rfl) (fun K hK => ?_)
  go_wp2_with fail
  refine any_one 12 (by kernel_rfl) rfl (by rfl) (fun K hK => ?_)
  go_wp2_with fail
  refine any_one 13 (by kernel_rfl) rfl (by rfl) (fun K hK => ?_)
  go_wp2_with fail
  refine any_one 14 (by kernel_rfl) rfl (by rfl) (fun K hK => ?_)
  go_wp2_with fail
  refine any_one 15 (by kernel_rfl) rfl (by rfl) (fun K hK => ?_)
  go_wp2_with fail
  refine any_one 16 (by kernel_rfl) rfl (by rfl) (fun K hK => ?_)
  go_wp2_with fail
  refine any_one 17 (by kernel_rfl) rfl (by rfl) (fun K hK => ?_)
  go_wp2_with fail
  refine any_one 18 (by kernel_rfl) rfl (by rfl) (fun K hK => ?_)
  go_wp2_with fail
  refine any_one 19 (by kernel_rfl) rfl (by rfl) (fun K hK => ?_)
  go_wp2_with fail
  refine any_one 20 (by kernel_rfl) rfl (by rfl) (fun K hK => ?_)
  go_wp2_with fail
  refine any_one 21 (by kernel_rfl) rfl (by rfl) (fun K hK => ?_)
  go_wp2_with fail
  refine any_one 22 (by kernel_rfl) rfl (by rfl) (fun K hK => ?_)
  go_wp2_with fail
  refine any_one 23 (by kernel_rfl) rfl (by rfl) (fun K hK => ?_)
  go_wp2_with fail
  refine any_take 24 (.int .i64 7) rfl (by kernel_rfl) (by kernel_rfl) (by kernel_rfl) (fun _ _ _ h => h) (by rfl) (fun w => by rfl) ?_
  simp only [Act.put, List.setIfInBounds_toArray, List.set_cons_zero, List.set_cons_succ]
  refine any_one 25 (by kernel_rfl) rfl (by rfl) (fun K hK => ?_)
  go_wp2_with fail
  refine any_one 26 (by kernel_rfl) rfl (by rfl) (fun K hK => ?_)
  go_wp2_with fail
  refine any_one 27 (by kernel_rfl) rfl (by rfl) (fun K hK => ?_)
  go_wp2_with fail
  refine any_one 28 (by kernel_rfl) rfl (by rfl) (fun K hK => ?_)
  go_wp2_with fail
  refine any_one 29 (by kernel_rfl) rfl (by rfl) (fun K hK => ?_)
  go_wp2_with fail
  refine any_one 30 (by kernel_rfl) rfl (by rfl) (fun K hK => ?_)
  go_wp2_with fail
  refine any_one 31 (by kernel_rfl) rfl (by rfl) (fun K hK => ?_)
  go_wp2_with fail
  refine any_one 32 (by kernel_rfl) rfl (by rfl) (fun K hK => ?_)
  go_wp2_with fail
  refine any_one 33 (by kernel_rfl) rfl (by rfl) (fun K hK => ?_)
  go_wp2_with fail
  refine any_two 34 35 (by kernel_rfl) ?_ ?_
  · refine op_do rfl (by rfl) (fun K hK => ?_)
    go_wp2_with fail
    refine any_one 35 (by kernel_rfl) rfl (by rfl) (fun K hK => ?_)
    go_wp2_with fail
    refine (shelf_any _).mono ?_
    rintro e wa12 ⟨va, rfl, hva, hba⟩
    have hQ12 := hQn _ _ hQ11 hba
    obtain ⟨b12, off12, cap12, a12, c12, rfl, hcap12, k0, k1, k2, k3, ho12⟩ := shelf_five hva
    have z012 := k0 wa12 (Below.refl _ _)
    have z112 := k1 wa12 (Below.refl _ _)
    have z212 := k2 wa12 (Below.refl _ _)
    have z312 := k3 wa12 (Below.refl _ _)
    clear k0 k1 k2 k3 hva hba
    go_wp2_with fail
    refine any_one 36 (by kernel_rfl) rfl (by rfl) (fun K hK => ?_)
    go_wp2_with fail
    refine any_one 37 (by kernel_rfl) rfl (by rfl) (fun K hK => ?_)
    go_wp2_with fail
    refine any_one 38 (by kernel_rfl) rfl (by rfl) (fun K hK => ?_)
    go_wp2_with fail
    refine (sameObject_any o5 o5 _ _ _ _ _ (Ho.out.below (hQb _ hQ12)) ho12).mono ?_
    rintro e we ⟨rfl, hbb⟩
    have hQz := hQn _ _ hQ12 hbb
    clear hbb
    go_wp2_with fail
    refine any_one 39 (by kernel_rfl) rfl (by rfl) (fun K hK => ?_)
    go_wp2_with fail
    refine any_one 40 (by kernel_rfl) rfl (by rfl) (fun K hK => ?_)
    go_wp2_with fail
    refine any_done (by kernel_rfl) ?_
    go_wp2
    go_ret
    exact ⟨rfl, Hfin.out _ hQz⟩
  · refine op_do rfl (by rfl) (fun K hK => ?_)
    go_wp2_with fail
    refine (shelf_any _).mono ?_
    rintro e wa13 ⟨va, rfl, hva, hba⟩
    have hQ13 := hQn _ _ hQ11 hba
    obtain ⟨b13, off13, cap13, a13, c13, rfl, hcap13, k0, k1, k2, k3, ho13⟩ := shelf_five hva
    have z013 := k0 wa13 (Below.refl _ _)
    have z113 := k1 wa13 (Below.refl _ _)
    have z213 := k2 wa13 (Below.refl _ _)
    have z313 := k3 wa13 (Below.refl _ _)
    clear k0 k1 k2 k3 hva hba
    go_wp2_with fail
    refine any_take 36 (.pointer (some ⟨b13, off13 + 16, none⟩)) rfl (by kernel_rfl) (by kernel_rfl) (by kernel_rfl) (fun _ _ _ h => h) (by rfl) (fun w => ?_) ?_
    · go_simp
    simp only [Act.put, List.setIfInBounds_toArray, List.set_cons_zero, List.set_cons_succ]
    refine any_two 34 37 (by kernel_rfl) ?_ ?_
    · refine op_do rfl (by rfl) (fun K hK => ?_)
      go_wp2_with fail
      refine any_one 37 (by kernel_rfl) rfl (by rfl) (fun K hK => ?_)
      go_wp2_with fail
      refine any_one 38 (by kernel_rfl) rfl (by rfl) (fun K hK => ?_)
      go_wp2_with fail
      refine (sameObject_any o5 o5 _ _ _ _ _ (Ho.out.below (hQb _ hQ13)) ho13).mono ?_
      rintro e we ⟨rfl, hbb⟩
      have hQz := hQn _ _ hQ13 hbb
      clear hbb
      go_wp2_with fail
      refine any_one 39 (by kernel_rfl) rfl (by rfl) (fun K hK => ?_)
      go_wp2_with fail
      refine any_one 40 (by kernel_rfl) rfl (by rfl) (fun K hK => ?_)
      go_wp2_with fail
      refine any_done (by kernel_rfl) ?_
      go_wp2
      go_ret
      exact ⟨rfl, Hfin.out _ hQz⟩
    · refine op_do rfl (by rfl) (fun K hK => ?_)
      go_wp2_with fail
      refine any_one 34 (by kernel_rfl) rfl (by rfl) (fun K hK => ?_)
      go_wp2_with fail
      refine any_one 38 (by kernel_rfl) rfl (by rfl) (fun K hK => ?_)
      go_wp2_with fail
      refine (sameObject_any o5 o5 _ _ _ _ _ (Ho.out.below (hQb _ hQ13)) ho13).mono ?_
      rintro e we ⟨rfl, hbb⟩
      have hQz := hQn _ _ hQ13 hbb
      clear hbb
      go_wp2_with fail
      refine any_one 39 (by kernel_rfl) rfl (by rfl) (fun K hK => ?_)
      go_wp2_with fail
      refine any_one 40 (by kernel_rfl) rfl (by rfl) (fun K hK => ?_)
      go_wp2_with fail
      refine any_done (by kernel_rfl) ?_
      go_wp2
      go_ret
      exact ⟨rfl, Hfin.out _ hQz⟩

end Go.Proofs.Ytcppgkhkijejoaa
