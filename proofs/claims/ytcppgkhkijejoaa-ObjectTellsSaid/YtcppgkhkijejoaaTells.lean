/- Walks: the law ObjectTells. -/
import Derived.Test.YtcppgkhkijejoaaOf
namespace Go.Proofs.Ytcppgkhkijejoaa
open Go.RowKit
set_option linter.unusedVariables false
set_option linter.unusedSimpArgs false

set_option maxRecDepth 100000 in
set_option maxHeartbeats 4000000 in
theorem objectTells_any (o : Obj) (s : ByteArray) (lv : Value) (S : Nat → Prop) (w : World) (ho : ObjIs S w o lv) (hs : s.size ≤ 140737488351232) :
    Calls Try.prog 4 #[.agg #[.int .i64 o.id, .int .i64 o.kind, lv, .string o.text], .string s] w fun e w' => e = .returned (.bool true) ∧ Below w.heap.size w w' := by
  obtain ⟨⟨pl, cl⟩, rfl⟩ := ho.1.shape
  obtain ⟨R, hR, hR1, hx0, hx1, hx2, hx3⟩ := cls_box4 w (.int .i64 o.id) (.int .i64 o.kind) (.slice pl o.links.length cl) (.string o.text) 24
  have hRb := hR.below
  have hRn := hR.next
  have hRa := hR.alloc
  have Hsame := Lib.hid ((sameObj_iff (decO s) (decO s)).2 rfl)
  have hdn : (decN s == decN s) = true := by simp
  have hde : (decE s == decE s) = true := by simp
  have hch : (checkObj o == checkObj o) = true := by simp
  have Hd := Lib.hid (fun x => decode_any s x (by omega))
  have Hof := Lib.hid (fun x => objectOf_any s x hs)
  generalize hO : decO s = d at *
  have HO := Lib.hid hO; clear hO
  have hkey : ∃ (c : Int) (es : ByteArray), (∀ x, In R x → Calls Try.prog 19 #[.agg #[.int .i64 o.id, .int .i64 o.kind, .slice pl o.links.length cl, .string o.text]] x fun e w' => e = .returned (.tuple #[.string es, .int .i64 c]) ∧ Below x.heap.size x w') ∧
      (∀ x, In R x → Calls Try.prog 18 #[.agg #[.int .i64 o.id, .int .i64 o.kind, .slice pl o.links.length cl, .string o.text]] x fun e w' => e = .returned (.int .i64 c) ∧ Below x.heap.size x w') ∧
      (∀ x, In R x → Calls Try.prog 21 #[.agg #[.int .i64 o.id, .int .i64 o.kind, .slice pl o.links.length cl, .string o.text]] x fun e w' => e = .returned (.int .i64 c) ∧ Below x.heap.size x w') ∧
      ((c = 0 ∧ (∀ x, In R x → Calls Try.prog 22 #[.agg #[.int .i64 o.id, .int .i64 o.kind, .slice pl o.links.length cl, .string o.text]] x fun e w' => e = .returned (.string es) ∧ Below x.heap.size x w')) ∨
        (c ≠ 0 ∧ es = ⟨#[]⟩)) := by
    refine ⟨checkObj o, encE o, fun x hx => encode_any o _ S x (ho.below (hRb x hx)), fun x hx => check_any o _ S x (ho.below (hRb x hx)), fun x hx => checkObject_any o _ S x (ho.below (hRb x hx)), ?_⟩
    by_cases hz : checkObj o = 0
    · refine .inl ⟨hz, fun x hx => ?_⟩
      have h := objectBytes_any o _ S x (ho.below (hRb x hx)) hz
      unfold encE; rw [if_pos hz]; exact h
    · refine .inr ⟨hz, ?_⟩
      unfold encE; rw [if_neg hz]; rfl
  obtain ⟨c, es, h1, h2, h3, h4⟩ := hkey
  have H1 := Lib.hid h1; clear h1
  have H2 := Lib.hid h2; clear h2
  have H3 := Lib.hid h3; clear h3
  have H4 := Lib.hid h4; clear h4
  have hch : (c == c) = true := by simp
  have hes : (es.toList == es.toList) = true := by simp
  go_enter Try.func4, Try.ntmps4
  go_wp2_with fail
  refine (H1.out _ hR1).mono ?_
  rintro e w2 ⟨rfl, hb2⟩
  have hR2 := hRn _ _ hR1 hb2
  clear hb2
  go_wp2_with fail
  refine (Hd.out _).mono ?_
  rintro e w3 ⟨⟨l3, rfl, ho3⟩, hb3⟩
  have hR3 := hRn _ _ hR2 hb3
  rw [HO.out] at ho3 ⊢
  obtain ⟨⟨p3, c3⟩, rfl⟩ := ho3.1.shape
  have Ho3 := Lib.hid ho3
  clear hb3 ho3
  obtain ⟨Q, hQ, hQ1, y0, y1, y2, y3⟩ := cls_box4 w3 (.int .i64 d.id) (.int .i64 d.kind) (.slice p3 d.links.length c3) (.string d.text) 24
  have hQR : ∀ x, In Q x → In R x := fun x hx => hRn _ _ hR3 (hQ.below x hx)
  have HQ3 := Lib.hid (fun x (hx : In Q x) => Ho3.out.below (hQ.below x hx))
  have hQn := hQ.next
  have hQa := hQ.alloc
  go_wp2_with fail
  have hR4 := hQR _ hQ1
  refine (H3.out _ hR4).mono ?_
  rintro e w4 ⟨rfl, hb4⟩
  have hQ4 := hQn _ _ hQ1 hb4
  have hR5 := hQR _ hQ4
  clear hb4
  rcases H4.out with ⟨hc, h5⟩ | ⟨hc, hes0⟩
  · have H5 := Lib.hid h5; clear h5
    have hc' : (c == 0) = true := by simpa using hc
    clear hc
    go_wp2_with fail
    refine (H5.out _ hR5).mono ?_
    rintro e w5 ⟨rfl, hb5⟩
    have hQ5 := hQn _ _ hQ4 hb5
    clear hb5
    go_wp2_with fail
    refine (Hof.out _).mono ?_
    rintro e w6 ⟨⟨l6, rfl, ho6⟩, hb6⟩
    have hQ6 := hQn _ _ hQ5 hb6
    clear hb6
    rw [HO.out] at ho6 ⊢
    obtain ⟨⟨p6, c6⟩, rfl⟩ := ho6.1.shape
    have Ho6 := Lib.hid ho6
    clear ho6
    obtain ⟨P, hP, hP1, z0, z1, z2, z3⟩ := cls_box4 w6 (.int .i64 d.id) (.int .i64 d.kind) (.slice p6 d.links.length c6) (.string d.text) 24
    have hPQ : ∀ x, In P x → In Q x := fun x hx => hQn _ _ hQ6 (hP.below x hx)
    have HP6 := Lib.hid (fun x (hx : In P x) => Ho6.out.below (hP.below x hx))
    have hPn := hP.next
    go_wp2_with fail
    refine (objectBegun_any _).mono ?_
    rintro e w7 ⟨rfl, hb7⟩
    have hP7 := hPn _ _ hP1 hb7
    have hQ7 := hPQ _ hP7
    have hR7 := hQR _ hQ7
    go_wp2_with fail
    refine (H2.out _ hR7).mono ?_
    rintro e w8 ⟨rfl, hb8⟩
    have hP8 := hPn _ _ hP7 hb8
    have hQ8 := hPQ _ hP8
    have hR8 := hQR _ hQ8
    clear hb7 hb8
    go_wp2_with fail
    refine (sameObject_any d d _ _ _ _ _ (HQ3.out _ hQ8) (HP6.out _ hP8)).mono ?_
    rintro e w9 ⟨rfl, hb9⟩
    rw [Hsame.out]
    go_wp2_with fail
    go_ret
    exact ⟨rfl, hRb _ (hRn _ _ hR8 hb9)⟩
  · subst hes0
    have hc' : (c == 0) = false := by simpa using hc
    clear hc
    go_wp2_with fail
    refine (Hof.out _).mono ?_
    rintro e w6 ⟨⟨l6, rfl, ho6⟩, hb6⟩
    have hQ6 := hQn _ _ hQ4 hb6
    clear hb6
    rw [HO.out] at ho6 ⊢
    obtain ⟨⟨p6, c6⟩, rfl⟩ := ho6.1.shape
    have Ho6 := Lib.hid ho6
    clear ho6
    obtain ⟨P, hP, hP1, z0, z1, z2, z3⟩ := cls_box4 w6 (.int .i64 d.id) (.int .i64 d.kind) (.slice p6 d.links.length c6) (.string d.text) 24
    have hPQ : ∀ x, In P x → In Q x := fun x hx => hQn _ _ hQ6 (hP.below x hx)
    have HP6 := Lib.hid (fun x (hx : In P x) => Ho6.out.below (hP.below x hx))
    have hPn := hP.next
    go_wp2_with fail
    refine (objectBegun_any _).mono ?_
    rintro e w7 ⟨rfl, hb7⟩
    have hP7 := hPn _ _ hP1 hb7
    have hQ7 := hPQ _ hP7
    have hR7 := hQR _ hQ7
    go_wp2_with fail
    refine (H2.out _ hR7).mono ?_
    rintro e w8 ⟨rfl, hb8⟩
    have hP8 := hPn _ _ hP7 hb8
    have hQ8 := hPQ _ hP8
    have hR8 := hQR _ hQ8
    clear hb7 hb8
    go_wp2_with fail
    refine (sameObject_any d d _ _ _ _ _ (HQ3.out _ hQ8) (HP6.out _ hP8)).mono ?_
    rintro e w9 ⟨rfl, hb9⟩
    rw [Hsame.out]
    go_wp2_with fail
    go_ret
    exact ⟨rfl, hRb _ (hRn _ _ hR8 hb9)⟩
end Go.Proofs.Ytcppgkhkijejoaa
