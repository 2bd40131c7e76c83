/- Walks: the law ObjectBack. -/
import Derived.Test.YtcppgkhkijejoaaApart
namespace Go.Proofs.Ytcppgkhkijejoaa
open Go.RowKit
set_option linter.unusedVariables false
set_option linter.unusedSimpArgs false

theorem decode_enc (o : Obj) (t : ByteArray) (w : World) (h : checkObj o = 0) (ht : t.size ≤ 140737488351232) : Calls Try.prog 20 #[.string (encB o ++ t)] w fun e w' =>
    (∃ lv, e = .returned (.tuple #[.agg #[.int .i64 o.id, .int .i64 o.kind, lv, .string o.text], .int .i64 ((encB o).size : Int), .int .i64 0]) ∧ ObjIs (fun b => w.heap.size ≤ b) w' o lv) ∧ Below w.heap.size w w' := by
  obtain ⟨h1, h2, h3⟩ := enc_dec h t
  have hk := checkObj_ok h
  have hD := decode_any (encB o ++ t) w (by rw [ByteArray.size_append, encB_size]; omega)
  unfold DecIs at hD
  rw [h1, h2, h3] at hD
  exact hD
theorem decode_yes (s : ByteArray) (w : World) (h : decE s = 0) (hs : s.size ≤ 140737488351232) : Calls Try.prog 20 #[.string s] w fun e w' =>
    (∃ lv, e = .returned (.tuple #[.agg #[.int .i64 (decO s).id, .int .i64 (decO s).kind, lv, .string (decO s).text], .int .i64 (rawLen s : Int), .int .i64 0]) ∧ ObjIs (fun b => w.heap.size ≤ b) w' (decO s) lv) ∧ Below w.heap.size w w' := by
  have hD := decode_any s w (by omega)
  unfold DecIs at hD
  rw [h, (dec_enc h).2.1] at hD
  exact hD
theorem decode_no (s : ByteArray) (w : World) (h : decE s ≠ 0) (hs : s.size ≤ 140737488351232) : Calls Try.prog 20 #[.string s] w fun e w' =>
    (∃ lv, e = .returned (.tuple #[.agg #[.int .i64 0, .int .i64 0, lv, .string ByteArray.empty], .int .i64 0, .int .i64 (decE s)]) ∧ ObjIs (fun b => w.heap.size ≤ b) w' obj0 lv) ∧ Below w.heap.size w w' := by
  have hD := decode_any s w (by omega)
  unfold DecIs at hD
  rw [show decO s = obj0 by unfold decO; rw [if_neg h], show decN s = 0 by unfold decN; rw [if_neg h]] at hD
  exact hD

set_option maxRecDepth 100000 in
set_option maxHeartbeats 1500000 in
theorem objectBack_any (o : Obj) (s : ByteArray) (lv : Value) (S : Nat → Prop) (w : World) (ho : ObjIs S w o lv) (hs : s.size ≤ 140737488351232) :
    Calls Try.prog 5 #[.agg #[.int .i64 o.id, .int .i64 o.kind, lv, .string o.text], .string s] w fun e w' => e = .returned (.bool true) ∧ Below w.heap.size w w' := by
  obtain ⟨⟨p, c⟩, rfl⟩ := ho.1.shape
  obtain ⟨R, hR, hR1, hx0, hx1, hx2, hx3⟩ := cls_box4 w (.int .i64 o.id) (.int .i64 o.kind) (.slice p o.links.length c) (.string o.text) 24
  have hRb := hR.below
  have hRn := hR.next
  have hRa := hR.alloc
  by_cases hz : checkObj o = 0
  · have Hz := Lib.hid hz
    have hn : ¬ 9223372036854775807 < (encB o).size + s.size := by have := checkObj_ok hz; rw [encB_size]; omega
    have He := Lib.hid (fun x hx => encode_ok o _ S x (ho.below (hRb x hx)) hz)
    have Hd := Lib.hid (fun x => decode_enc o s x hz hs)
    have Hs := Lib.hid (fun x lv' S' (hx : In R x) (h' : ObjIs S' x o lv') => sameObject_any o o lv' _ S' S x h' (ho.below (hRb x hx)))
    have hso := (sameObj_iff o o).2 rfl
    clear hz
    go_enter Try.func5, Try.ntmps5
    go_wp2_with fail
    refine (objectBegun_any _).mono ?_
    rintro e w2 ⟨rfl, hb2⟩
    have hR2 := hRn _ _ hR1 hb2
    go_wp2_with fail
    refine (He.out _ hR2).mono ?_
    rintro e w3 ⟨rfl, hb3⟩
    have hR3 := hRn _ _ hR2 hb3
    go_wp2_with fail
    refine (Hd.out _).mono ?_
    rintro e w4 ⟨⟨l4, rfl, ho4⟩, hb4⟩
    have hR4 := hRn _ _ hR3 hb4
    obtain ⟨⟨p4, c4⟩, rfl⟩ := ho4.1.shape
    clear hb2 hb3 hb4
    go_wp2_with fail
    refine (Hs.out _ _ _ (hRa _ _ hR4) (ho4.below ((Below.refl _ _).alloc (Nat.le_refl _) _))).mono ?_
    rintro e w5 ⟨rfl, hb5⟩
    have hR5 := hRn _ _ (hRa _ _ hR4) hb5
    clear hb5 ho4
    by_cases hd : decE s = 0
    · obtain ⟨hc, hN, hle, he⟩ := dec_enc hd
      have Hd2 := Lib.hid (fun x => decode_yes s x hd hs)
      have Hl := Lib.hid he
      have Hc := Lib.hid hc
      clear hd hc hN he
      go_wp2_with fail
      refine (Hd2.out _).mono ?_
      rintro e w6 ⟨⟨l6, rfl, ho6⟩, hb6⟩
      have hR6 := hRn _ _ hR5 hb6
      obtain ⟨⟨p6, c6⟩, rfl⟩ := ho6.1.shape
      have Ho6 := Lib.hid ho6
      clear ho6 hb6
      go_wp2_with fail
      refine (encode_ok (decO s) _ _ _ (Ho6.out.below ((Below.refl _ _).alloc (Nat.le_refl _) _)) Hc.out).mono ?_
      rintro e w7 ⟨rfl, hb7⟩
      have hR7 := hRn _ _ (hRa _ _ hR6) hb7
      go_wp2_with fail
      go_ret
      refine ⟨ret_bool' ?_, hRb _ hR7⟩
      rw [text_eq, Hl.out]
      simp [sub]
    · have hd' : (decE s != 0) = true := by simpa using hd
      have Hd2 := Lib.hid (fun x => decode_no s x hd hs)
      go_wp2_with fail
      refine (Hd2.out _).mono ?_
      rintro e w6 ⟨⟨l6, rfl, ho6⟩, hb6⟩
      have hR6 := hRn _ _ hR5 hb6
      obtain ⟨⟨p6, c6⟩, rfl⟩ := ho6.1.shape
      go_wp2_with fail
      go_ret
      exact ⟨rfl, hRb _ (hRa _ _ hR6)⟩
  · have hz' : (checkObj o == 0) = false := by simpa using hz
    have He := Lib.hid (fun x hx => encode_bad o _ S x (ho.below (hRb x hx)) hz)
    clear hz
    go_enter Try.func5, Try.ntmps5
    go_wp2_with fail
    refine (objectBegun_any _).mono ?_
    rintro e w2 ⟨rfl, hb2⟩
    have hR2 := hRn _ _ hR1 hb2
    go_wp2_with fail
    refine (He.out _ hR2).mono ?_
    rintro e w5 ⟨rfl, hb3⟩
    have hR5 := hRn _ _ hR2 hb3
    clear hb2 hb3
    by_cases hd : decE s = 0
    · obtain ⟨hc, hN, hle, he⟩ := dec_enc hd
      have Hd2 := Lib.hid (fun x => decode_yes s x hd hs)
      have Hl := Lib.hid he
      have Hc := Lib.hid hc
      clear hd hc hN he
      go_wp2_with fail
      refine (Hd2.out _).mono ?_
      rintro e w6 ⟨⟨l6, rfl, ho6⟩, hb6⟩
      have hR6 := hRn _ _ hR5 hb6
      obtain ⟨⟨p6, c6⟩, rfl⟩ := ho6.1.shape
      have Ho6 := Lib.hid ho6
      clear ho6 hb6
      go_wp2_with fail
      refine (encode_ok (decO s) _ _ _ (Ho6.out.below ((Below.refl _ _).alloc (Nat.le_refl _) _)) Hc.out).mono ?_
      rintro e w7 ⟨rfl, hb7⟩
      have hR7 := hRn _ _ (hRa _ _ hR6) hb7
      go_wp2_with fail
      go_ret
      refine ⟨ret_bool' ?_, hRb _ hR7⟩
      rw [text_eq, Hl.out]
      simp [sub]
    · have hd' : (decE s != 0) = true := by simpa using hd
      have Hd2 := Lib.hid (fun x => decode_no s x hd hs)
      go_wp2_with fail
      refine (Hd2.out _).mono ?_
      rintro e w6 ⟨⟨l6, rfl, ho6⟩, hb6⟩
      have hR6 := hRn _ _ hR5 hb6
      obtain ⟨⟨p6, c6⟩, rfl⟩ := ho6.1.shape
      go_wp2_with fail
      go_ret
      exact ⟨rfl, hRb _ (hRa _ _ hR6)⟩
end Go.Proofs.Ytcppgkhkijejoaa
