/- Plain: what is encoded is decoded as it was, and the other way round. No program here. -/
import Derived.Test.YtcppgkhkijejoaaDec
namespace Go.Proofs.Ytcppgkhkijejoaa
open Go.RowKit
set_option linter.unusedVariables false
set_option linter.unusedSimpArgs false

theorem byt_strN (s : ByteArray) (k : Nat) : byt s k = (strN s).getD k 0 := by
  unfold byt strN
  rw [List.getD_eq_getElem?_getD, List.getD_eq_getElem?_getD, List.getElem?_map]
  cases s.data.toList[k]? <;> simp

theorem strN_nums {xs : List Int} (h : ∀ x ∈ xs, 0 ≤ x ∧ x ≤ 255) : strN (strOfNums xs) = xs := by
  unfold strN strOfNums
  simp only [List.map_map]
  conv => rhs; rw [← List.map_id xs]
  apply List.map_congr_left
  intro x hx
  have := h x hx
  simp only [Function.comp, UInt8.toNat_ofNat']
  show ((x.toNat % 2 ^ 8 : Nat) : Int) = x
  omega

theorem strN_inj {s t : ByteArray} (h : strN s = strN t) : s = t := by rw [← str_strN s, ← str_strN t, h]
theorem strN_append (s t : ByteArray) : strN (s ++ t) = strN s ++ strN t := by
  unfold strN; rw [ByteArray.data_append, Array.toList_append, List.map_append]
theorem strN_sub (s : ByteArray) (k n : Nat) : strN (sub s k n) = ((strN s).drop k).take n := by
  unfold strN sub
  rw [Lib.extract_data, List.map_take, List.map_drop]
  congr 1
  omega
theorem strN_range (s : ByteArray) : ∀ x ∈ strN s, 0 ≤ x ∧ x ≤ 255 := by
  intro x hx
  unfold strN at hx
  obtain ⟨c, _, rfl⟩ := List.mem_map.1 hx
  have := c.toNat_lt
  omega

theorem links_range {o : Obj} (h : checkObj o = 0) : ∀ x ∈ o.links, 1 ≤ x ∧ x ≤ 98 := by
  obtain ⟨h1, h2, h3, h4, h5⟩ := checkObj_ok h
  have hs : scan (linkBad o) o.links.length = 0 := by
    unfold linksErr at h5
    by_cases h0 : scan (linkBad o) o.links.length = 0
    · exact h0
    · rw [if_pos h0] at h5; exact absurd h5 h0
  intro x hx
  obtain ⟨i, hi, rfl⟩ := List.mem_iff_getElem.1 hx
  have hb := scan_zero hs i hi
  unfold linkBad at hb
  cases hw : within (nth o.links i) 1 (o.id - 1)
  · rw [hw] at hb; simp at hb
  · have := within_true hw
    rw [nth_lt hi] at this
    omega

theorem b8_links {o : Obj} (h : checkObj o = 0) : o.links.map b8 = o.links := by
  conv => rhs; rw [← List.map_id o.links]
  apply List.map_congr_left
  intro x hx
  have := links_range h x hx
  exact b8_in (by omega) (by omega)

theorem encN_ok {o : Obj} (h : checkObj o = 0) : encN o = [o.id, o.kind, (o.links.length : Int)] ++ o.links ++ [(o.text.size : Int)] ++ strN o.text := by
  obtain ⟨h1, h2, h3, h4, h5⟩ := checkObj_ok h
  unfold encN
  rw [b8_links h, b8_in (by omega) (by omega), b8_in (by omega) (by omega), b8_in (by omega) (by omega), b8_in (by omega) (by omega)]

theorem strN_enc {o : Obj} (h : checkObj o = 0) (t : ByteArray) : strN (encB o ++ t) = o.id :: o.kind :: (o.links.length : Int) :: (o.links ++ (o.text.size : Int) :: (strN o.text ++ strN t)) := by
  obtain ⟨h1, h2, h3, h4, h5⟩ := checkObj_ok h
  rw [strN_append, encB, strN_nums, encN_ok h]
  · simp
  · rw [encN_ok h]
    intro x hx
    simp only [List.mem_append, List.mem_cons, List.not_mem_nil, or_false] at hx
    rcases hx with ((hx | hx) | hx) | hx
    · rcases hx with rfl | rfl | rfl <;> omega
    · have := links_range h x hx; omega
    · subst hx; omega
    · exact strN_range _ x hx

/-- what is encoded is decoded as it was, whatever stands behind -/
theorem enc_raw {o : Obj} (h : checkObj o = 0) (t : ByteArray) : rawOk (encB o ++ t) ∧ rawObj (encB o ++ t) = o ∧ rawLen (encB o ++ t) = (encB o).size := by
  have hE := strN_enc h t
  have hsz : (encB o ++ t).size = 4 + o.links.length + o.text.size + t.size := by rw [ByteArray.size_append, encB_size]
  have b0 : byt (encB o ++ t) 0 = o.id := by rw [byt_strN, hE]; rfl
  have b1 : byt (encB o ++ t) 1 = o.kind := by rw [byt_strN, hE]; rfl
  have b2 : byt (encB o ++ t) 2 = o.links.length := by rw [byt_strN, hE]; rfl
  have hn : rawN (encB o ++ t) = o.links.length := by unfold rawN; rw [b2]; simp
  have b3 : byt (encB o ++ t) (3 + o.links.length) = o.text.size := by
    rw [byt_strN, hE, Nat.add_comm]; simp [List.getD_eq_getElem?_getD]
  have hm : rawM (encB o ++ t) = o.text.size := by unfold rawM; rw [hn, b3]; simp
  refine ⟨⟨by omega, by omega, by omega⟩, ?_, by unfold rawLen; rw [hn, hm, encB_size]⟩
  have hl : rawTo (encB o ++ t) (rawN (encB o ++ t)) = o.links := by
    rw [hn]
    apply List.ext_getElem (rawTo_length _ _)
    intro i h1 h2
    rw [← nth_lt h1, rawTo_nth h2, byt_strN, hE, Nat.add_comm]
    simp [List.getD_eq_getElem?_getD]
    rw [List.getElem?_append_left h2, List.getElem?_eq_getElem h2]; rfl
  have ht : sub (encB o ++ t) (4 + rawN (encB o ++ t)) (rawM (encB o ++ t)) = o.text := by
    apply strN_inj
    rw [strN_sub, hn, hm, hE, show 4 + o.links.length = (o.links.length + 1) + 3 by omega, ← strN_length o.text]
    simp
  unfold rawObj
  rw [b0, b1, hl, ht]

theorem enc_dec {o : Obj} (h : checkObj o = 0) (t : ByteArray) : decE (encB o ++ t) = 0 ∧ decO (encB o ++ t) = o ∧ decN (encB o ++ t) = ((encB o).size : Int) := by
  obtain ⟨h1, h2, h3⟩ := enc_raw h t
  have he : decE (encB o ++ t) = 0 := by unfold decE; rw [if_pos h1, h2, h]
  exact ⟨he, by unfold decO; rw [if_pos he, h2], by unfold decN; rw [if_pos he, h3]⟩

/-- what is decoded is encoded as it was -/
theorem dec_enc {s : ByteArray} (h : decE s = 0) : checkObj (decO s) = 0 ∧ decN s = (rawLen s : Int) ∧ rawLen s ≤ s.size ∧ encB (decO s) = sub s 0 (rawLen s) := by
  have hr : rawOk s := by
    unfold decE at h
    by_cases hr : rawOk s
    · exact hr
    · rw [if_neg hr] at h; exact absurd h (by decide)
  have hc : checkObj (rawObj s) = 0 := by unfold decE at h; rwa [if_pos hr] at h
  have ho : decO s = rawObj s := by unfold decO; rw [if_pos h]
  obtain ⟨r1, r2, r3⟩ := hr
  refine ⟨by rw [ho, hc], by unfold decN; rw [if_pos h], by unfold rawLen; omega, ?_⟩
  rw [ho]
  apply strN_inj
  have hlen : (strN s).length = s.size := strN_length s
  have hE := strN_enc hc ByteArray.empty
  rw [ByteArray.append_empty] at hE
  rw [hE, strN_sub]
  have hts : (rawObj s).text.size = rawM s := sub_size (by omega)
  have hll : (rawObj s).links.length = rawN s := rawTo_length _ _
  have htx : strN (rawObj s).text = ((strN s).drop (4 + rawN s)).take (rawM s) := strN_sub _ _ _
  apply List.ext_getElem?
  intro i
  simp only [List.drop_zero, show strN ByteArray.empty = [] from rfl, List.append_nil, hts, htx]
  have hg : ∀ k, k < s.size → (strN s)[k]? = some (byt s k) := fun k hk => by
    rw [byt_strN, List.getD_eq_getElem?_getD, List.getElem?_eq_getElem (by omega)]; rfl
  have hN : ((rawN s : Nat) : Int) = byt s 2 := byt_nat s 2
  have hM : ((rawM s : Nat) : Int) = byt s (3 + rawN s) := byt_nat s _
  by_cases hi : i < rawLen s
  · have hi' : i < 4 + rawN s + rawM s := hi
    rw [List.getElem?_take, if_pos hi, hg i (by omega)]
    match i with
    | 0 => rfl
    | 1 => rfl
    | 2 => simp only [List.getElem?_cons_succ, List.getElem?_cons_zero, hll, hN]
    | k + 3 =>
      simp only [List.getElem?_cons_succ]
      by_cases h1 : k < rawN s
      · rw [List.getElem?_append_left (by omega), List.getElem?_eq_getElem (by omega), ← nth_lt (by omega)]
        show some (nth (rawTo s (rawN s)) k) = _
        rw [rawTo_nth h1, Nat.add_comm]
      · rw [List.getElem?_append_right (by omega), hll]
        by_cases h2 : k = rawN s
        · subst h2; rw [Nat.sub_self, List.getElem?_cons_zero, hM, Nat.add_comm]
        · obtain ⟨d, rfl⟩ : ∃ d, k = rawN s + 1 + d := ⟨k - rawN s - 1, by omega⟩
          rw [show rawN s + 1 + d - rawN s = d + 1 by omega, List.getElem?_cons_succ, List.getElem?_take, if_pos (by omega), List.getElem?_drop, hg _ (by omega)]
          congr 2; omega
  · have hi' : 4 + rawN s + rawM s ≤ i := by unfold rawLen at hi; omega
    rw [List.getElem?_eq_none (by simp; omega), List.getElem?_eq_none]
    simp [hll, hlen]; omega

/-- no encoding is the beginning of another one -/
theorem enc_apart {a b : Obj} (ha : checkObj a = 0) (hb : checkObj b = 0) (hs : (encB a).size ≤ (encB b).size) : (decide (sub (encB b) 0 (encB a).size = encB a)) = sameObj a b := by
  by_cases h : a = b
  · subst h
    rw [(sameObj_iff a a).2 rfl, decide_eq_true_eq]
    unfold sub; rw [Nat.zero_add]; exact ByteArray.extract_zero_size
  · have h1 : sameObj a b = false := by
      cases hc : sameObj a b
      · rfl
      · exact absurd ((sameObj_iff a b).1 hc) h
    rw [h1, decide_eq_false_iff_not]
    intro e
    apply h
    have ht : encB b = encB a ++ sub (encB b) (encB a).size ((encB b).size - (encB a).size) := by
      apply strN_inj
      rw [strN_append, ← e, strN_sub, strN_sub, e]
      rw [List.drop_zero]
      conv => lhs; rw [← List.take_append_drop (encB a).size (strN (encB b))]
      congr 1
      rw [List.take_of_length_le]
      simp [strN_length]
    have h2 := (enc_raw ha (sub (encB b) (encB a).size ((encB b).size - (encB a).size))).2.1
    rw [← ht] at h2
    have h3 := (enc_raw hb ByteArray.empty).2.1
    rw [ByteArray.append_empty] at h3
    rw [← h2, h3]

end Go.Proofs.Ytcppgkhkijejoaa
