/- Walks: the law RefsTells. -/
import Derived.Test.YtcppgkhkijejoaaRefs6
namespace Go.Proofs.Ytcppgkhkijejoaa
open Go.RowKit
set_option linter.unusedVariables false
set_option linter.unusedSimpArgs false

set_option maxRecDepth 100000 in
set_option maxHeartbeats 4000000 in
theorem refsTells_any (l : List Rf) (objs : List Obj) (s : ByteArray) (v u : Value) (S S' : Nat → Prop) (w : World) (h : RefsV S w v l) (ho : StoreV S' w u objs) (hs : s.size ≤ 140737488351232) :
    Calls Try.prog 7 #[v, u, .string s] w fun e w' => e = .returned (.bool true) ∧ Below w.heap.size w w' := by
  have h' := h
  obtain ⟨a, n, cap, HN, rfl, h1, h2, h3, h4, h5⟩ := h.open
  obtain ⟨ua, uc, un, rfl⟩ : ∃ a cap n, u = .slice a n cap := let ⟨_, ⟨a, cap, hv, _⟩, _⟩ := ho; ⟨a, cap, _, hv⟩
  obtain ⟨R, hR, hR1, _⟩ := cls_plain w
  have hRb := hR.below
  have hRn := hR.next
  have Hg := Lib.hid (get_any l _ S s w h hs)
  have Hcn := Lib.hid (fun x => checkName_any s x hs)
  have Hna := Lib.hid (fun x => name_any s x hs)
  have Hra := Lib.hid (fun x (hx : In R x) => refAt_any l _ S s x (h.below (hRb _ hx)))
  have Hck := Lib.hid (fun x (hx : In R x) => refsCheck_any l objs _ _ S S' x (h.below (hRb _ hx)) (ho.below (hRb _ hx)))
  have Hcr := Lib.hid (fun x (hx : In R x) => checkRefs_any l objs _ _ S S' x (h.below (hRb _ hx)) (ho.below (hRb _ hx)))
  clear h h5 ho h'
  have hG : getE l s = (if nameErr s ≠ 0 then nameErr s else if findRf l s < 0 then 5 else 0) ∧ getN l s = (if nameErr s ≠ 0 then 0 else if findRf l s < 0 then 0 else (rf l (findRf l s).toNat).id) := ⟨rfl, rfl⟩
  have HG := Lib.hid hG; clear hG
  have Hf := Lib.hid (findRf_cases l s)
  generalize getE l s = ge at *
  generalize getN l s = gn at *
  generalize nameErr s = ne at *
  generalize findRf l s = fi at *
  generalize checkRefs l objs = cr at *
  have q1 : (ne == ne) = true := by simp
  have q2 : (cr == cr) = true := by simp
  have q3 : (ge == ge) = true := by simp
  have q4 : (gn == gn) = true := by simp
  have HQ3 := Lib.hid q3
  have HQ4 := Lib.hid q4
  clear q3 q4
  by_cases hz : ne = 0
  · have hz' : (ne == 0) = true := by simpa using hz
    rcases Hf.out with hf | ⟨k, hk, hf, _⟩
    · obtain ⟨e1, e2⟩ := HG.out
      rw [if_neg (by simp [hz]), if_pos (by omega)] at e1 e2
      subst e1; subst e2; subst hf
      clear hz
      go_enter Try.func7, Try.ntmps7
      go_wp2_with fail
      refine Hg.out.mono ?_
      rintro e w2 ⟨rfl, hb2⟩
      have hR2 := hRn _ _ hR1 hb2
      go_wp2_with fail
      refine (Hcn.out _).mono ?_
      rintro e w3 ⟨rfl, rfl⟩
      go_wp2_with fail
      refine (Hra.out _ hR2).mono ?_
      rintro e w3 ⟨rfl, rfl⟩
      go_wp2_with fail
      refine (refsBegun_any _).mono ?_
      rintro e w4 ⟨rfl, hb4⟩
      have hR4 := hRn _ _ hR2 hb4
      go_wp2_with fail
      refine (Hna.out _).mono ?_
      rintro e w5 ⟨rfl, rfl⟩
      go_wp2_with fail
      refine (Hck.out _ hR4).mono ?_
      rintro e w6 ⟨rfl, hb6⟩
      have hR6 := hRn _ _ hR4 hb6
      go_wp2_with fail
      refine (Hcr.out _ hR6).mono ?_
      rintro e w7 ⟨rfl, hb7⟩
      have hR7 := hRn _ _ hR6 hb7
      go_wp2_with fail
      go_ret
      exact ⟨rfl, hRb _ hR7⟩
    · obtain ⟨e1, e2⟩ := HG.out
      rw [if_neg (by simp [hz]), if_neg (by omega)] at e1 e2
      rw [hf, show ((k : Int)).toNat = k from rfl] at e2
      have hkn : k < n := by rw [HN.out]; exact hk
      obtain ⟨b, off, rfl, hb, k0, k1⟩ := h4 (by omega)
      have x1 := fun x hx => k1 k x hkn (hRb x hx)
      clear h4 k0 k1 hk
      subst e1; subst hf
      generalize (rf l k).id = ri at *
      subst e2
      subst hz
      go_enter Try.func7, Try.ntmps7
      go_wp2_with fail
      refine Hg.out.mono ?_
      rintro e w2 ⟨rfl, hb2⟩
      have hR2 := hRn _ _ hR1 hb2
      have x12 := x1 _ hR2
      go_wp2_with fail
      refine (Hcn.out _).mono ?_
      rintro e w3 ⟨rfl, rfl⟩
      go_wp2_with fail
      refine (Hra.out _ hR2).mono ?_
      rintro e w3 ⟨rfl, rfl⟩
      go_wp2_with fail
      refine (refsBegun_any _).mono ?_
      rintro e w4 ⟨rfl, hb4⟩
      have hR4 := hRn _ _ hR2 hb4
      go_wp2_with fail
      refine (Hna.out _).mono ?_
      rintro e w5 ⟨rfl, rfl⟩
      go_wp2_with fail
      refine (Hck.out _ hR4).mono ?_
      rintro e w6 ⟨rfl, hb6⟩
      have hR6 := hRn _ _ hR4 hb6
      go_wp2_with fail
      refine (Hcr.out _ hR6).mono ?_
      rintro e w7 ⟨rfl, hb7⟩
      have hR7 := hRn _ _ hR6 hb7
      have hq4 := HQ4.out
      go_wp2_with fail
      go_ret
      exact ⟨rfl, hRb _ hR7⟩
  · have hz' : (ne == 0) = false := by simpa using hz
    obtain ⟨e1, e2⟩ := HG.out
    rw [if_pos hz] at e1 e2
    subst e1; subst e2
    clear hz
    go_enter Try.func7, Try.ntmps7
    go_wp2_with fail
    refine Hg.out.mono ?_
    rintro e w2 ⟨rfl, hb2⟩
    have hR2 := hRn _ _ hR1 hb2
    go_wp2_with fail
    refine (Hcn.out _).mono ?_
    rintro e w3 ⟨rfl, rfl⟩
    go_wp2_with fail
    refine (refsBegun_any _).mono ?_
    rintro e w4 ⟨rfl, hb4⟩
    have hR4 := hRn _ _ hR2 hb4
    go_wp2_with fail
    refine (Hna.out _).mono ?_
    rintro e w5 ⟨rfl, rfl⟩
    go_wp2_with fail
    refine (Hck.out _ hR4).mono ?_
    rintro e w6 ⟨rfl, hb6⟩
    have hR6 := hRn _ _ hR4 hb6
    go_wp2_with fail
    refine (Hcr.out _ hR6).mono ?_
    rintro e w7 ⟨rfl, hb7⟩
    have hR7 := hRn _ _ hR6 hb7
    go_wp2_with fail
    go_ret
    exact ⟨rfl, hRb _ hR7⟩
end Go.Proofs.Ytcppgkhkijejoaa
