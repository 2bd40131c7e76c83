/- Walks: Encode. -/
import Derived.Test.YtcppgkhkijejoaaObj3
import Derived.Test.YtcppgkhkijejoaaRep2
namespace Go.Proofs.Ytcppgkhkijejoaa
open Go.RowKit
set_option linter.unusedVariables false
set_option linter.unusedSimpArgs false

theorem ret_si {s s' : ByteArray} {a b : Int} (hs : s = s') (h : a = b) : Ending.returned (.tuple #[.string s, .int .i64 a]) = .returned (.tuple #[.string s', .int .i64 b]) := by rw [hs, h]

def encE (o : Obj) : ByteArray := if checkObj o = 0 then encB o else ByteArray.empty

set_option maxHeartbeats 2000000 in
theorem encode_any (o : Obj) (lv : Value) (S : Nat → Prop) (w : World) (ho : ObjIs S w o lv) :
    Calls Try.prog 19 #[.agg #[.int .i64 o.id, .int .i64 o.kind, lv, .string o.text]] w fun e w' => e = .returned (.tuple #[.string (encE o), .int .i64 (checkObj o)]) ∧ Below w.heap.size w w' := by
  have hmf : ∀ (fn : Fn) (first cap : Array Value) (w : World), (Instr.makeFunc fn first cap).run Try.prog w = .ok (.func fn first cap) w := fun _ _ _ _ => rfl
  have ho' := ho
  obtain ⟨a, n, cap, HN, rfl, hc1, hc2, hc8, hc⟩ := ho.1.open
  clear hc
  obtain ⟨R, hR, hR1, hx0, hx1, hx2, hx3⟩ := cls_box4 w (.int .i64 o.id) (.int .i64 o.kind) (.slice a n cap) (.string o.text) 24
  have hRb := hR.below
  have hRn := hR.next
  have hRa := hR.alloc
  by_cases hz : checkObj o = 0
  · have hz' : (checkObj o == 0) = true := by simpa using hz
    obtain ⟨hid, hki, hl4, ht8, hle⟩ := checkObj_ok hz
    clear hle
    have Hz := Lib.hid hz; clear hz
    go_enter Try.func19, Try.ntmps19
    go_wp2_with (go_at_call 18; refine (check_any o _ S _ (ho'.below (hRb _ hR1))).mono ?_; rintro e w2 ⟨rfl, hb2⟩; have hR2 := hRn _ _ hR1 hb2)
    have hsz2 := (hRb _ hR2).size
    have hw2 : Below w2.heap.size w2 ((w2.alloc (.cells #[.slice none 0 0] 74)).alloc (.cells #[.int .i64 o.id, .int .i64 o.kind, .int .i64 n] 3)) :=
      ((Below.refl _ _).alloc (Nat.le_refl _) _).alloc (by simp) _
    have hI1 := ints_new (w2.alloc (.cells #[.slice none 0 0] 74)) [o.id, o.kind, (n : Int)] 3 (w2.heap.size + 1) (by simp) (by simp) (by intro x hx; simp only [List.mem_cons, List.not_mem_nil, or_false] at hx; unfold I64; rcases hx with rfl | rfl | rfl <;> omega)
    have hbk1 : ((w2.alloc (.cells #[.slice none 0 0] 74)).alloc (.cells #[.int .i64 o.id, .int .i64 o.kind, .int .i64 n] 3)).heap[w2.heap.size]? = some (.cells #[.slice none 0 0] 74 (0, 0)) := by
      rw [Below.heap_alloc _ _ _ (by simp)]; exact heap_alloc_new w2 _
    refine (put_any [o.id, o.kind, (n : Int)] _ _ _ w2.heap.size (.slice none 0 0) 0 [] hI1 ?_ (by simp) (by omega) hbk1 (World.ownsRow_nil _ _ _ _)).mono ?_
    · intro b hb; subst hb; exact ⟨by simp, by omega, by simp [Value.ownBlock]⟩
    rintro e w3 ⟨rfl, bv3, hbk3, hown3, hB3⟩
    have hB3' := hw2.trans hB3
    have hR3 := hRn _ _ hR2 hB3'
    have Hbk3 := Lib.hid hbk3
    have Hown3 := Lib.hid hown3
    clear hbk1 hI1 hw2 hB3 hbk3 hown3
    go_wp2_with fail
    have hI2 := ho.1.lt.below (hRb _ hR3)
    refine (put_any o.links _ _ _ w2.heap.size bv3 _ _ hI2 ?_ (by omega) (by simp) Hbk3.out Hown3.out).mono ?_
    · rintro b ⟨_, hb⟩
      refine ⟨by have := (hRb _ hR3).size; omega, by omega, fun h => ?_⟩
      have := (Hown3.out.lt _ h).1; omega
    rintro e w4 ⟨rfl, bv4, hbk4, hown4, hB4⟩
    have hR4 := hRn _ _ hR2 (hB3'.trans hB4)
    have Hbk4 := Lib.hid hbk4
    have Hown4 := Lib.hid hown4
    have hsz4 : w2.heap.size ≤ w4.heap.size := Nat.le_trans hB3'.size hB4.size
    clear hI2 Hbk3 Hown3 hbk4 hown4
    go_wp2_with fail
    have hI3 := ints_new w4 [(o.text.size : Int)] 3 w4.heap.size rfl (by simp) (by intro x hx; simp only [List.mem_cons, List.not_mem_nil, or_false] at hx; unfold I64; subst hx; omega)
    have hbk4' : (w4.alloc (.cells #[.int .i64 o.text.size] 3)).heap[w2.heap.size]? = some (.cells #[bv4] 74 (0, 0)) := by
      rw [Below.heap_alloc _ _ _ (lt_of_block Hbk4.out)]; exact Hbk4.out
    refine (put_any [(o.text.size : Int)] _ _ _ w2.heap.size bv4 _ _ hI3 ?_ (by simp) (by simp; omega) hbk4' (Hown4.out.alloc _)).mono ?_
    · intro b hb; subst hb
      refine ⟨by simp, fun e => by have := lt_of_block Hbk4.out; omega, fun h => ?_⟩
      have := (Hown4.out.lt _ h).2; omega
    rintro e w5 ⟨rfl, bv5, hbk5, hown5, hB5⟩
    have hR5 := hRn _ _ hR2 ((hB3'.trans hB4).trans (((Below.refl _ _).alloc (by have := lt_of_block Hbk4.out; omega) _).trans hB5))
    clear hI3 hbk4' Hbk4 Hown4
    have hc5 := cell_of_one hbk5
    have hsz5 := lt_of_block hbk5
    have Hown5 := Lib.hid hown5
    clear hbk5 hown5
    obtain ⟨i0, hi, hz0, hz1, hz2⟩ := info_parts Try.infoByte
    go_wp2_with (at_builtin; refine Lib.wpList_append_own_string _ rfl _ _ 74 9 rfl w2.heap.size 5 i0 Try.underlying74 Try.underlying9 hi hz0 hz1 hz2 bv5 _ _ rfl Hown5.out o.text rfl ?c1 ?c2 ?c3 ?_)
    case c1 => unfold maxLen; simp; omega
    case c2 => simp; omega
    case c3 => omega
    intro v6 w6 hown6 hgrow6 _
    obtain ⟨g, cap6, rfl, hl6, hc6⟩ := own_bytes hown6 (encN_cells o n HN.out) (by omega)
    have kc := fun (c : Nat) => run_convert_bytes_arg (P := Try.prog) w6 74 5 Try.underlying74 Try.underlying5 g 0 _ c (encN o) hl6 hc6 9 Try.underlying9
    have hR6 := hRn _ _ hR2 (((hB3'.trans hB4).trans (((Below.refl _ _).alloc (by omega) _).trans hB5)).grown hgrow6 (by omega) (fun k hk => (Hown5.out.lt _ hk).1))
    clear hc6 hown6 hgrow6 Hown5
    go_wp2
    go_ret2
    exact ⟨ret_si (by rw [encE, if_pos Hz.out]; rfl) Hz.out.symm, hRb _ hR6⟩
  · have hz' : (checkObj o == 0) = false := by simpa using hz
    have Hz := Lib.hid hz; clear hz
    go_enter Try.func19, Try.ntmps19
    go_wp2_with (go_at_call 18; refine (check_any o _ S _ (ho'.below (hRb _ hR1))).mono ?_; rintro e w' ⟨rfl, hb2⟩; have hR2 := hRn _ _ hR1 hb2)
    go_ret2
    exact ⟨by rw [encE, if_neg Hz.out]; rfl, hRb _ hR2⟩
end Go.Proofs.Ytcppgkhkijejoaa
