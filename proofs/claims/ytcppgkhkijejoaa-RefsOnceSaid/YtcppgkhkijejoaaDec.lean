/- Walks: package object: Decode; the reference's ObjectOf. -/
import Derived.Test.YtcppgkhkijejoaaTold2
namespace Go.Proofs.Ytcppgkhkijejoaa
open Go.RowKit
set_option linter.unusedVariables false
set_option linter.unusedSimpArgs false

instance (s : ByteArray) : Decidable (rawOk s) := by unfold rawOk; infer_instance

/-- A2: what Decode answers -/
def decE (s : ByteArray) : Int := if rawOk s then checkObj (rawObj s) else 5
def decO (s : ByteArray) : Obj := if decE s = 0 then rawObj s else obj0
def decN (s : ByteArray) : Int := if decE s = 0 then (rawLen s : Int) else 0

def DecIs (s : ByteArray) (w : World) (e : Ending) (w' : World) : Prop :=
  (∃ lv, e = .returned (.tuple #[.agg #[.int .i64 (decO s).id, .int .i64 (decO s).kind, lv, .string (decO s).text], .int .i64 (decN s), .int .i64 (decE s)]) ∧ ObjIs (fun b => w.heap.size ≤ b) w' (decO s) lv) ∧ Below w.heap.size w w'

theorem obj0_is (S : Nat → Prop) (w : World) : ObjIs S w obj0 (.slice none 0 0) :=
  ⟨IntsV.nil _ _ _ _ (by omega), by unfold I64 obj0; decide, by unfold I64 obj0; decide, by decide⟩

/-- behind a new block of four cells: what it holds, and that it may be written -/
theorem cls_var4 (w : World) (v0 v1 v2 v3 : Value) (t : TypeId) : ∃ R : World → Prop, Cls w R ∧ In R (w.alloc (.cells #[v0, v1, v2, v3] t)) ∧
    (∀ x, In R x → x.cell? ⟨w.heap.size, 0, none⟩ = some v0) ∧ (∀ x, In R x → x.cell? ⟨w.heap.size, 1, none⟩ = some v1) ∧
    (∀ x, In R x → x.cell? ⟨w.heap.size, 2, none⟩ = some v2) ∧ (∀ x, In R x → x.cell? ⟨w.heap.size, 3, none⟩ = some v3) ∧
    (∀ x j, In R x → x.frozen? ⟨w.heap.size, j, none⟩ = false) ∧ (∀ x, In R x → x.heap[w.heap.size]? = some (.cells #[v0, v1, v2, v3] t (0, 0))) := by
  have hb : ∀ x, In (fun x => Below (w.heap.size + 1) (w.alloc (.cells #[v0, v1, v2, v3] t)) x) x → x.heap[w.heap.size]? = some (.cells #[v0, v1, v2, v3] t (0, 0)) := fun x hx => by
    rw [Below.block hx w.heap.size (by omega)]; exact heap_alloc_new w _
  exact ⟨_, cls_of w _ (w.heap.size + 1) (by omega) (by simp) ((Below.refl _ _).alloc (Nat.le_refl _) _), Below.refl _ _,
    fun x hx => block_cell (hb x hx) rfl, fun x hx => block_cell (hb x hx) rfl, fun x hx => block_cell (hb x hx) rfl, fun x hx => block_cell (hb x hx) rfl, fun x j hx => block_free (hb x hx), hb⟩

set_option maxRecDepth 100000 in
set_option maxHeartbeats 2000000 in
theorem decode_any (s : ByteArray) (w : World) (hs : s.size ≤ 9223372036854775807) : Calls Try.prog 20 #[.string s] w (DecIs s w) := by
  obtain ⟨R, hR, hR1, hx0, hx1, hx2, hx3, hxf, hxb⟩ := cls_var4 w (.int .i64 0) (.int .i64 0) (.slice none 0 0) (.string ⟨#[]⟩) 24
  have hRn := hR.next
  have hRb := hR.below
  have hRa := hR.alloc
  go_enter Try.func20, Try.ntmps20
  go_wp2_with fail
  refine (told_any s _ hs).mono ?_
  rintro e w1 ⟨⟨hok, lv, rfl, ho⟩ | ⟨hno, rfl⟩, hb1⟩
  · have hR2 := hRn _ _ hR1 hb1
    have hsz := (hRb _ hR2).size
    obtain ⟨q, hq⟩ := ho.1.shape
    subst hq
    have Ho := Lib.hid (ho.below ((Below.refl _ _).alloc (Nat.le_refl _) (.cells #[.int .i64 (rawObj s).id, .int .i64 (rawObj s).kind, .slice q.1 (rawObj s).links.length q.2, .string (rawObj s).text] 24)))
    have Hok := Lib.hid hok
    clear hb1 ho hok hR1
    go_wp2_with fail
    refine (check_any (rawObj s) _ _ _ Ho.out).mono ?_
    rintro e w2 ⟨rfl, hb2⟩
    have hR3 := hRn _ _ (hRa _ _ hR2) hb2
    obtain ⟨R', hR', hR1', y0, y1, y2, y3⟩ := cls_box4 w1 (.int .i64 (rawObj s).id) (.int .i64 (rawObj s).kind) (.slice q.1 (rawObj s).links.length q.2) (.string (rawObj s).text) 24
    have hR2' := hR'.next _ _ hR1' hb2
    have y0 := y0 _ hR2'
    have y1 := y1 _ hR2'
    have y2 := y2 _ hR2'
    have y3 := y3 _ hR2'
    clear hR2' hR1' hR'
    have Hb2 := Lib.hid hb2; clear hb2
    have Ho2 := Lib.hid (Ho.out.below Hb2.out)
    by_cases hz : checkObj (rawObj s) = 0
    · have hz' : (checkObj (rawObj s) != 0) = false := by simpa using hz
      have Hd := Lib.hid (show decE s = 0 by unfold decE; rw [if_pos Hok.out]; exact hz)
      have Hz := Lib.hid hz; clear hz
      go_wp2
      have hs4 := set4_is (v0 := .int .i64 (rawObj s).id) (v1 := .int .i64 (rawObj s).kind) (v2 := .slice q.1 (rawObj s).links.length q.2) (v3 := .string (rawObj s).text) (hxb _ hR3)
      have hu4 := set4_upd w.heap.size (.int .i64 (rawObj s).id) (.int .i64 (rawObj s).kind) (.slice q.1 (rawObj s).links.length q.2) (.string (rawObj s).text) w2
      refine bodyPost_ret (w := set4 w.heap.size (.int .i64 (rawObj s).id) (.int .i64 (rawObj s).kind) (.slice q.1 (rawObj s).links.length q.2) (.string (rawObj s).text) w2) (v := .tuple #[.agg #[.int .i64 (rawObj s).id, .int .i64 (rawObj s).kind, .slice q.1 (rawObj s).links.length q.2, .string (rawObj s).text], .int .i64 (rawLen s), .int .i64 0]) ?_ rfl ?_
      · have e0 := block_cell (j := 0) hs4 rfl
        have e1 := block_cell (j := 1) hs4 rfl
        have e2 := block_cell (j := 2) hs4 rfl
        have e3 := block_cell (j := 3) hs4 rfl
        clear hs4 hu4
        generalize set4 w.heap.size (.int .i64 (rawObj s).id) (.int .i64 (rawObj s).kind) (.slice q.1 (rawObj s).links.length q.2) (.string (rawObj s).text) w2 = wf at *
        simp [results, Try.results20, go_sem, *]
      · have ho : decO s = rawObj s := by unfold decO; rw [Hd.out]; rfl
        have hn : decN s = rawLen s := by unfold decN; rw [Hd.out]; rfl
        unfold DecIs
        rw [ho, hn, Hd.out]
        exact ⟨⟨_, rfl, (Ho2.out.upd hu4 (fun b hb h => by simp at hb; omega)).weaken (fun b hb => by simp at hb; omega)⟩, (hRb _ hR3).trans (hu4.below (by have := (hRb _ hR3).size; omega) (fun b hb => by omega))⟩
    · have hz' : (checkObj (rawObj s) != 0) = true := by simpa using hz
      have Hd := Lib.hid (show decE s = checkObj (rawObj s) by unfold decE; rw [if_pos Hok.out])
      have Hz := Lib.hid hz; clear hz
      go_wp2
      have hs4 := set4_is (v0 := .int .i64 0) (v1 := .int .i64 0) (v2 := .slice none 0 0) (v3 := .string ⟨#[]⟩) (hxb _ hR3)
      have hu4 := set4_upd w.heap.size (.int .i64 0) (.int .i64 0) (.slice none 0 0) (.string ⟨#[]⟩) w2
      refine bodyPost_ret (w := set4 w.heap.size (.int .i64 0) (.int .i64 0) (.slice none 0 0) (.string ⟨#[]⟩) w2) (v := .tuple #[.agg #[.int .i64 0, .int .i64 0, .slice none 0 0, .string ⟨#[]⟩], .int .i64 0, .int .i64 (checkObj (rawObj s))]) ?_ rfl ?_
      · have e0 := block_cell (j := 0) hs4 rfl
        have e1 := block_cell (j := 1) hs4 rfl
        have e2 := block_cell (j := 2) hs4 rfl
        have e3 := block_cell (j := 3) hs4 rfl
        clear hs4 hu4
        generalize set4 w.heap.size (.int .i64 0) (.int .i64 0) (.slice none 0 0) (.string ⟨#[]⟩) w2 = wf at *
        simp [results, Try.results20, go_sem, *]
      · have ho : decO s = obj0 := by unfold decO; rw [Hd.out, if_neg Hz.out]
        have hn : decN s = 0 := by unfold decN; rw [Hd.out, if_neg Hz.out]
        unfold DecIs
        rw [ho, hn, Hd.out]
        exact ⟨⟨_, rfl, obj0_is _ _⟩, (hRb _ hR3).trans (hu4.below (by have := (hRb _ hR3).size; omega) (fun b hb => by omega))⟩
  · have hR2 := hRn _ _ hR1 hb1
    have hsz := (hRb _ hR2).size
    have Hd := Lib.hid (show decE s = 5 by unfold decE; rw [if_neg hno])
    clear hb1 hno hR1
    have hq := hxb _ (hRa _ (.cells #[.int .i64 0, .int .i64 0, .slice none 0 0, .string ⟨#[]⟩] 24) hR2)
    go_wp2
    have hs4 := set4_is (v0 := .int .i64 0) (v1 := .int .i64 0) (v2 := .slice none 0 0) (v3 := .string ⟨#[]⟩) hq
    have hu4 := set4_upd w.heap.size (.int .i64 0) (.int .i64 0) (.slice none 0 0) (.string ⟨#[]⟩) (w1.alloc (.cells #[.int .i64 0, .int .i64 0, .slice none 0 0, .string ⟨#[]⟩] 24))
    refine bodyPost_ret (w := set4 w.heap.size (.int .i64 0) (.int .i64 0) (.slice none 0 0) (.string ⟨#[]⟩) (w1.alloc (.cells #[.int .i64 0, .int .i64 0, .slice none 0 0, .string ⟨#[]⟩] 24)))
      (v := .tuple #[.agg #[.int .i64 0, .int .i64 0, .slice none 0 0, .string ⟨#[]⟩], .int .i64 0, .int .i64 5]) ?_ rfl ?_
    · have e0 := block_cell (j := 0) hs4 rfl
      have e1 := block_cell (j := 1) hs4 rfl
      have e2 := block_cell (j := 2) hs4 rfl
      have e3 := block_cell (j := 3) hs4 rfl
      clear hs4 hu4 hq
      generalize set4 w.heap.size (.int .i64 0) (.int .i64 0) (.slice none 0 0) (.string ⟨#[]⟩) (w1.alloc (.cells #[.int .i64 0, .int .i64 0, .slice none 0 0, .string ⟨#[]⟩] 24)) = wf at *
      simp [results, Try.results20, go_sem, *]
    · have ho : decO s = obj0 := by unfold decO; rw [Hd.out]; rfl
      have hn : decN s = 0 := by unfold decN; rw [Hd.out]; rfl
      unfold DecIs
      rw [ho, hn, Hd.out]
      exact ⟨⟨_, rfl, obj0_is _ _⟩, (hRb _ (hRa _ _ hR2)).trans (hu4.below (by simp; omega) (fun b hb => by omega))⟩
end Go.Proofs.Ytcppgkhkijejoaa
