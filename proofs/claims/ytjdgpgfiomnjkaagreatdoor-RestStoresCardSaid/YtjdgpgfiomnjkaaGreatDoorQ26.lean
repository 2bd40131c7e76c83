
/- NeedA: NeedP, NeedA, NeedB, NeedC. -/
import Derived.Test.YtjdgpgfiomnjkaaGreatDoorQ17
import Derived.Shelf.Slices.CompactI
import Derived.Lib.RowBridge
import Derived.Shelf.Sort.Plain
import Derived.Test.YtjdgpgfiomnjkaaGreatDoorQ11
namespace Go.Proofs.YtjdgpgfiomnjkaaGreatDoor
open Go.RowKit
set_option linter.unusedVariables false
set_option linter.unusedSimpArgs false
set_option linter.unusedSectionVars false
variable [Ghost]
theorem upd_mapBlock (w : World) (blk : Nat) (f : Array Value → Array Value) : Upd (fun b => b = blk) w (Go.Sort.mapBlock w blk f) :=
 ⟨rfl, rfl, rfl, by simp [Go.Sort.mapBlock], fun b hb hn => by simp only [Go.Sort.mapBlock, Array.getElem?_modify]; rw [if_neg (fun e => hn e.symm)]⟩
theorem upd_ahead (w : World) (n : Nat) : Upd (fun _ => False) w (Go.Sort.ahead w n) := ⟨rfl, rfl, rfl, Nat.le_refl _, fun _ _ _ => rfl⟩
theorem upd_grow (w : World) (os : Array Go.Obj) : Upd (fun _ => False) w (Go.Sort.grow w os) := ⟨rfl, rfl, rfl, by simp [Go.Sort.grow], fun b hb _ => by simp [Go.Sort.grow, Array.getElem?_append, hb]⟩
def uniq (zs : List Int) : List Int := Lib.compact (zs.mergeSort fun x y => decide (x ≤ y))
theorem compact_spec {zs : List Int} (hs : ∀ i j, i ≤ j → j < zs.length → zs.toArray[i]! ≤ zs.toArray[j]!) : ∀ m, m ≤ zs.length →
  (Lib.compactUpTo zs.toArray m).Pairwise (· < ·) ∧ ∀ x, x ∈ Lib.compactUpTo zs.toArray m ↔ ∃ j, j < m ∧ zs.toArray[j]! = x := by
 intro m
 induction m with
 | zero => intro _; exact ⟨by simp [Lib.compactUpTo], fun x => by simp [Lib.compactUpTo]⟩
 | succ m ih =>
  intro hm
  obtain ⟨h1, h2⟩ := ih (by omega)
  rw [Lib.compactUpTo_succ]
  cases hk : Lib.keeps zs.toArray m
  ·simp only [Bool.false_eq_true, if_false, List.append_nil]
   refine ⟨h1, fun x => ?_⟩
   rw [h2]
   have hk2 : ¬ (m = 0 ∨ zs.toArray[m]! ≠ zs.toArray[m - 1]!) := by
    intro h; unfold Lib.keeps at hk; rw [decide_eq_true h] at hk; cases hk
   have hm0 : m ≠ 0 := fun e => hk2 (.inl e)
   have he : zs.toArray[m]! = zs.toArray[m - 1]! := Classical.not_not.1 fun h => hk2 (.inr h)
   constructor
   ·rintro ⟨j, hj, e⟩; exact ⟨j, by omega, e⟩
   ·rintro ⟨j, hj, e⟩
    by_cases hjm : j = m
    ·subst hjm; exact ⟨j - 1, by omega, by rw [← he]; exact e⟩
    ·exact ⟨j, by omega, e⟩
  ·simp only [if_true]
   have hk2 : m = 0 ∨ zs.toArray[m]! ≠ zs.toArray[m - 1]! := by unfold Lib.keeps at hk; exact of_decide_eq_true hk
   refine ⟨?_, fun x => ?_⟩
   ·rw [List.pairwise_append]
    refine ⟨h1, List.pairwise_singleton _ _, fun a ha b hb => ?_⟩
    rw [List.mem_singleton.1 hb]
    obtain ⟨j, hj, e⟩ := (h2 a).1 ha
    subst e
    have hm0 : m ≠ 0 := by omega
    have hne := hk2.resolve_left hm0
    have a1 := hs j (m - 1) (by omega) (by omega)
    have a2 := hs (m - 1) m (by omega) (by omega)
    omega
   ·rw [List.mem_append, h2, List.mem_singleton]
    constructor
    ·rintro (⟨j, hj, e⟩ | e)
     ·exact ⟨j, by omega, e⟩
     ·exact ⟨m, by omega, e.symm⟩
    ·rintro ⟨j, hj, e⟩
     by_cases hjm : j = m
     ·subst hjm; exact .inr e.symm
     ·exact .inl ⟨j, by omega, e⟩
theorem uniq_spec (zs : List Int) : (uniq zs).Pairwise (· < ·) ∧ ∀ x, x ∈ uniq zs ↔ x ∈ zs := by
 have hp : (zs.mergeSort fun x y => decide (x ≤ y)).Pairwise (fun x y => decide (x ≤ y) = true) := List.pairwise_mergeSort (by intro a b c h1 h2; simp at *; omega) (by intro a b; simp; omega) zs
 have hl : (zs.mergeSort fun x y => decide (x ≤ y)).length = zs.length := List.length_mergeSort zs
 have hm := fun x => (List.mem_mergeSort (l := zs) (le := fun x y => decide (x ≤ y)) (a := x))
 unfold uniq Lib.compact
 generalize zs.mergeSort (fun x y => decide (x ≤ y)) = ys at *
 have hg : ∀ i, (hi : i < ys.length) → ys.toArray[i]! = ys[i] := fun i hi => by rw [getElem!_pos ys.toArray i (by simpa using hi)]; simp
 have hs := compact_spec (zs := ys) (fun i j hij hj => by
  rw [hg i (by omega), hg j hj]
  by_cases e : i = j
  ·subst e; omega
  ·have := List.pairwise_iff_getElem.1 hp i j (by omega) hj (by omega)
   simpa using this) ys.length (Nat.le_refl _)
 refine ⟨hs.1, fun x => ?_⟩
 rw [hs.2, ← hm x]
 constructor
 ·rintro ⟨j, hj, e⟩; rw [hg j hj] at e; rw [← e]; exact List.getElem_mem hj
 ·intro h
  obtain ⟨j, hj, e⟩ := List.getElem_of_mem h
  exact ⟨j, hj, by rw [hg j hj]; exact e⟩
theorem uniq_length (zs : List Int) : (uniq zs).length ≤ zs.length := by
 unfold uniq
 have := Lib.compact_length_le (zs.mergeSort fun x y => decide (x ≤ y))
 rw [List.length_mergeSort] at this; exact this
theorem ints_ext : ∀ {a b : List Int}, a.Pairwise (· < ·) → b.Pairwise (· < ·) → (∀ x, x ∈ a ↔ x ∈ b) → a = b
 | [], [], _, _, _ => rfl
 | [], y :: b, _, _, h => absurd ((h y).2 List.mem_cons_self) (by simp)
 | x :: a, [], _, _, h => absurd ((h x).1 List.mem_cons_self) (by simp)
 | x :: a, y :: b, ha, hb, h => by
  have ha' := List.pairwise_cons.1 ha
  have hb' := List.pairwise_cons.1 hb
  have e : x = y := by
   have h1 := (h x).1 List.mem_cons_self
   have h2 := (h y).2 List.mem_cons_self
   rcases List.mem_cons.1 h1 with e | h1
   ·exact e
   ·rcases List.mem_cons.1 h2 with e | h2
    ·exact e.symm
    ·have a1 := ha'.1 y h2
     have a2 := hb'.1 x h1
     omega
  subst e
  have : a = b := ints_ext ha'.2 hb'.2 fun z => by
   constructor
   ·intro hz
    rcases List.mem_cons.1 ((h z).1 (List.mem_cons_of_mem _ hz)) with e | h1
    ·have := ha'.1 z hz; omega
    ·exact h1
   ·intro hz
    rcases List.mem_cons.1 ((h z).2 (List.mem_cons_of_mem _ hz)) with e | h1
    ·have := hb'.1 z hz; omega
    ·exact h1
  rw [this]
def needB (l : List Obj) (p : Psh) (id : Int) : Bool := (id != 0) && !(p.objects.any fun o => o.id == id) && (kindOf l id == 0)
def linksTo (p : Psh) (k : Nat) : List Int := (p.objects.take k).flatMap (·.links)
def newsTo (p : Psh) (k : Nat) : List Int := (p.updates.take k).map (·.new)
def needG (l : List Obj) (p : Psh) : List Int := (linksTo p p.objects.length ++ newsTo p p.updates.length).filter (needB l p)
def needsE (l : List Obj) (p : Psh) : Int := if checkStore l ≠ 0 then checkStore l else checkPsh p
def needsL (l : List Obj) (p : Psh) : List Int := if needsE l p = 0 then uniq (needG l p) else []
def namedB (p : Psh) (id : Int) : Bool := (p.objects.any fun o => o.links.any fun x => x == id) || p.updates.any fun u => u.new == id
def wantB (l : List Obj) (p : Psh) (id : Int) : Bool := namedB p id && (decide (atOf l id < 0) && decide (atOf p.objects id < 0))
def wantTo (l : List Obj) (p : Psh) (k : Nat) : List Int := ((List.range k).map fun (i : Nat) => (i : Int) + 1).filter (wantB l p)
theorem eachE_zero {l : List Obj} (h : eachE l = 0) : ∀ o ∈ l, checkObj o = 0 := by
 intro o ho
 obtain ⟨i, hi, rfl⟩ := mem_obj ho
 exact scan_zero h i hi
theorem at_neg {l : List Obj} {id : Int} : atOf l id < 0 ↔ ∀ o ∈ l, o.id ≠ id := by
 unfold atOf
 cases h : l.findIdx? (fun o => o.id == id) with
 | none =>
  rw [List.findIdx?_eq_none_iff] at h
  simp only [show ((-1 : Int) < 0) = True from by simp, true_iff]
  intro o ho e
  have := h o ho
  simp [e] at this
 | some i =>
  rw [List.findIdx?_eq_some_iff_getElem] at h
  obtain ⟨hi, he, _⟩ := h
  simp only
  constructor
  ·intro h; omega
  ·intro h
   exact absurd (by simpa using he) (h _ (List.getElem_mem hi))
theorem kind_none {l : List Obj} (h : checkStore l = 0) {id : Int} : kindOf l id = 0 ↔ ∀ o ∈ l, o.id ≠ id := by
 unfold kindOf
 cases hf : l.find? (fun o => o.id == id) with
 | none =>
  rw [List.find?_eq_none] at hf
  simp only [true_iff]
  intro o ho e
  exact hf o ho (by simpa using e)
 | some o =>
  have h1 : o.id = id := by simpa using List.find?_some hf
  have h2 := List.mem_of_find?_eq_some hf
  obtain ⟨i, hi, rfl⟩ := mem_obj h2
  have h3 := checkObj_ok ((right_of h).each i hi)
  constructor
  ·intro e
   have e' : (obj l i).kind = 0 := e
   omega
  ·intro hx; exact absurd h1 (hx _ h2)
theorem link_range {o : Obj} (h : checkObj o = 0) {x : Int} (hx : x ∈ o.links) : 1 ≤ x ∧ x ≤ 98 := by
 obtain ⟨hid, _, _, _, hle⟩ := checkObj_ok h
 obtain ⟨i, hi, rfl⟩ := List.getElem_of_mem hx
 have hz : scan (linkBad o) o.links.length = 0 := by
  unfold linksErr at hle
  by_cases e : scan (linkBad o) o.links.length = 0
  ·exact e
  ·simp only [e, ne_eq, not_false_eq_true, if_true] at hle
 have h1 := scan_zero hz i hi
 have h2 : within (nth o.links i) 1 (o.id - 1) = true := by
  cases e : within (nth o.links i) 1 (o.id - 1)
  ·rw [linkBad_range e] at h1; cases h1
  ·rfl
 have := within_true h2
 rw [nth_lt hi] at this
 omega
theorem mem_needG {l : List Obj} {p : Psh} {x : Int} : x ∈ needG l p ↔ ((∃ o ∈ p.objects, x ∈ o.links) ∨ ∃ u ∈ p.updates, u.new = x) ∧ needB l p x = true := by
 unfold needG linksTo newsTo
 rw [List.mem_filter, List.mem_append, List.take_length, List.take_length, List.mem_flatMap, List.mem_map]
theorem needB_iff {l : List Obj} (h : checkStore l = 0) {p : Psh} {x : Int} : needB l p x = true ↔ x ≠ 0 ∧ (∀ o ∈ p.objects, o.id ≠ x) ∧ ∀ o ∈ l, o.id ≠ x := by
 unfold needB
 rw [Bool.and_eq_true, Bool.and_eq_true, beq_iff_eq, kind_none h]
 simp only [bne_iff_ne, Bool.not_eq_true', List.any_eq_false, beq_iff_eq]
 exact ⟨fun ⟨⟨a, b⟩, c⟩ => ⟨a, fun o ho => b o ho, c⟩, fun ⟨a, b, c⟩ => ⟨⟨a, fun o ho => b o ho⟩, c⟩⟩
theorem named_iff {p : Psh} {x : Int} : namedB p x = true ↔ (∃ o ∈ p.objects, x ∈ o.links) ∨ ∃ u ∈ p.updates, u.new = x := by
 unfold namedB
 rw [Bool.or_eq_true, List.any_eq_true, List.any_eq_true]
 constructor
 ·rintro (⟨o, ho, h⟩ | ⟨u, hu, h⟩)
  ·rw [List.any_eq_true] at h
   obtain ⟨y, hy, e⟩ := h
   exact .inl ⟨o, ho, by rw [← (by simpa using e : y = x)]; exact hy⟩
  ·exact .inr ⟨u, hu, by simpa using h⟩
 ·rintro (⟨o, ho, h⟩ | ⟨u, hu, h⟩)
  ·exact .inl ⟨o, ho, by rw [List.any_eq_true]; exact ⟨x, h, by simp⟩⟩
  ·exact .inr ⟨u, hu, by simpa using h⟩
theorem need_want {l : List Obj} {p : Psh} (h : checkStore l = 0) (hp : checkPsh p = 0) : wantTo l p 99 = uniq (needG l p) := by
 obtain ⟨h1, h2⟩ := uniq_spec (needG l p)
 refine ints_ext ?_ h1 fun x => ?_
 ·unfold wantTo
  refine List.Pairwise.filter _ ?_
  rw [List.pairwise_map]
  exact List.pairwise_lt_range.imp fun h => by omega
 ·rw [h2, mem_needG]
  unfold wantTo
  rw [List.mem_filter, List.mem_map, needB_iff h]
  unfold wantB
  rw [Bool.and_eq_true, Bool.and_eq_true, decide_eq_true_eq, decide_eq_true_eq, at_neg, at_neg, named_iff]
  obtain ⟨_, he, hm⟩ := checkPsh_zero hp
  have hmo := mvs_ok.1 hm
  constructor
  ·rintro ⟨⟨i, hi, e⟩, hn, ha, hb⟩
   exact ⟨hn, by omega, hb, ha⟩
  ·rintro ⟨hn, h0, hb, ha⟩
   refine ⟨?_, hn, ha, hb⟩
   have hr : 1 ≤ x ∧ x ≤ 99 := by
    rcases hn with ⟨o, ho, hx⟩ | ⟨u, hu, e⟩
    ·have := link_range (eachE_zero he o ho) hx; omega
    ·have := hmo.new u hu; omega
   exact ⟨(x - 1).toNat, List.mem_range.2 (by omega), by omega⟩
end Go.Proofs.YtjdgpgfiomnjkaaGreatDoor
namespace Go.Proofs.YtjdgpgfiomnjkaaGreatDoor
open Go.RowKit
set_option linter.unusedVariables false
set_option linter.unusedSimpArgs false
set_option linter.unusedSectionVars false
variable [Ghost]
def idxPO (p : Obj → Bool) (l : List Obj) : Int := match l.findIdx? p with | some i => (i : Int) | none => -1
theorem idxPO_hit {l : List Obj} {p : Obj → Bool} {k : Nat} (h : ∀ j, j < k → p (obj l j) = false) (hk : k < l.length) (he : p (obj l k) = true) : idxPO p l = k := by
 unfold idxPO
 have : l.findIdx? p = some k := by
  rw [List.findIdx?_eq_some_iff_getElem]
  refine ⟨hk, by rw [← obj_lt hk]; exact he, fun j hj => ?_⟩
  have := h j hj
  rw [obj_lt (by omega)] at this
  simp [this]
 rw [this]
theorem idxPO_none {l : List Obj} {p : Obj → Bool} (h : ∀ j, j < l.length → p (obj l j) = false) : idxPO p l = -1 := by
 unfold idxPO
 have : l.findIdx? p = none := by
  rw [List.findIdx?_eq_none_iff]
  intro x hx
  obtain ⟨i, hi, rfl⟩ := List.getElem_of_mem hx
  have := h i hi
  rwa [obj_lt hi] at this
 rw [this]
theorem idxPO_cases (p : Obj → Bool) (l : List Obj) : (idxPO p l = -1 ∧ ∀ j, j < l.length → p (obj l j) = false) ∨ ∃ k, k < l.length ∧ idxPO p l = (k : Int) ∧ p (obj l k) = true := by
 unfold idxPO
 cases h : l.findIdx? p with
 | none =>
  rw [List.findIdx?_eq_none_iff] at h
  exact .inl ⟨rfl, fun j hj => by rw [obj_lt hj]; exact h _ (List.getElem_mem hj)⟩
 | some k =>
  rw [List.findIdx?_eq_some_iff_getElem] at h
  obtain ⟨hk, he, _⟩ := h
  exact .inr ⟨k, hk, rfl, by rw [obj_lt hk]; exact he⟩
def AsksO (g : Nat) (c : Value) (p : Obj → Bool) (w : World) (l : List Obj) : Prop :=
 ∀ (x : World) (i : Nat) (lv : Value) (S : Nat → Prop), i < l.length → Below w.heap.size w x → ObjIs S x (obj l i) lv → Calls Tryz.prog g #[.agg #[.int .i64 (obj l i).id, .int .i64 (obj l i).kind, lv, .string (obj l i).text], c] x fun e w' => e = .returned (.bool (p (obj l i))) ∧ Below x.heap.size x w'
set_option maxHeartbeats 1000000 in
theorem indexFuncO_any (l : List Obj) (v c : Value) (S : Nat → Prop) (g : Nat) (p : Obj → Bool) (w : World) (h : StoreV S w v l) (eg : ∀ args w, (callFunc g args).run Tryz.prog w = .ok (.enter g args) w) (hp : AsksO g c p w l) :
  Calls Tryz.prog 152 #[v, .func (.func g) #[] #[c]] w fun e w' => e = .returned (.int .i64 (idxPO p l)) ∧ Below w.heap.size w w' := by
 obtain ⟨a, n, cap, la, ln, lc, HN, rfl, h1, h2, h3, h4, h5⟩ := h.open
 clear h
 obtain ⟨R, hR, hR1, _⟩ := cls_plain w
 have hRb := hR.below
 have hRn := hR.next
 have Hp := Lib.hid (fun x k (hk : k < n) hx => hp x k _ _ (by rw [← HN.out.1]; exact hk) hx ((h5 k hk).below hx)); clear hp h5
 have Hh := Lib.hid (fun k h1 hk he => idxPO_hit (l := l) (p := p) (k := k) h1 (by rw [← HN.out.1]; exact hk) he)
 have Hn := Lib.hid (fun h1 => idxPO_none (l := l) (p := p) (by rw [← HN.out.1]; exact h1))
 go_enter Tryz.func152, Tryz.ntmps152
 go_wp2_with fail
 go_loopw [8] (fun i wr => ∃ k : Nat, k ≤ n ∧ i = .int .i64 k ∧ Hid (∀ j, j < k → p (obj l j) = false) ∧ In R wr) (fun i _ => n - (intOf i).toNat)
 case atStart => exact ⟨0, by omega, rfl, fun j hj => absurd hj (by omega), hR1⟩
 case round =>
  obtain ⟨k, hk, rfl, Hs, hRw⟩ := hrel
  clear hR1
  by_cases hlt : k < n
  ·obtain ⟨b, off, rfl, hb, k0, k1, k2, k3⟩ := h4 (by omega)
   have x0 := k0 k wr hlt (hRb _ hRw)
   have x1 := k1 k wr hlt (hRb _ hRw)
   have x2 := k2 k wr hlt (hRb _ hRw)
   have x3 := k3 k wr hlt (hRb _ hRw)
   clear h4 k0 k1 k2 k3
   cases hq : p (obj l k)
   ·have He := Lib.hid hq
    go_wp2_with fail
    refine (Hp.out _ k hlt (hRb _ hRw)).mono ?_
    rintro e w' ⟨rfl, hb2⟩
    rw [hq]
    have hR2 := hRn _ _ hRw hb2
    go_wp2_with fail
    go_roundw
    case rel => exact ⟨k + 1, by omega, by go_num, all_next Hs.out He.out, hR2⟩
    case measure => simp [intOf]; omega
   ·have HK := Lib.hid (Hh.out k Hs.out hlt hq)
    go_wp2_with fail
    refine (Hp.out _ k hlt (hRb _ hRw)).mono ?_
    rintro e w' ⟨rfl, hb2⟩
    rw [hq]
    have hR2 := hRn _ _ hRw hb2
    go_wp2_with fail
    go_ret
    exact ⟨ret_int HK.out.symm, hRb _ hR2⟩
  ·obtain rfl : k = n := by omega
   have HK := Lib.hid (Hn.out Hs.out)
   go_wp2_with fail
   go_ret
   exact ⟨ret_int HK.out.symm, hRb _ hRw⟩
set_option maxHeartbeats 400000 in
theorem containsFuncO_any (l : List Obj) (v c : Value) (S : Nat → Prop) (g : Nat) (p : Obj → Bool) (w : World) (h : StoreV S w v l) (eg : ∀ args w, (callFunc g args).run Tryz.prog w = .ok (.enter g args) w) (hp : AsksO g c p w l) :
  Calls Tryz.prog 90 #[v, .func (.func g) #[] #[c]] w fun e w' => e = .returned (.bool (l.any p)) ∧ Below w.heap.size w w' := by
 obtain ⟨q1, q2, rfl⟩ := h.vshape
 have Hi := Lib.hid (indexFuncO_any l _ c S g p w h eg hp)
 rcases idxPO_cases p l with ⟨h0, h1⟩ | ⟨k, hk, h0, h1⟩
 ·have Ha := Lib.hid (show l.any p = false by
   rw [List.any_eq_false]
   intro x hx
   obtain ⟨i, hi, rfl⟩ := List.getElem_of_mem hx
   have := h1 i hi
   rw [obj_lt hi] at this
   simp [this])
  clear h1 hp
  go_enter Tryz.func90, Tryz.ntmps90
  go_wp2_with fail
  refine Hi.out.mono ?_
  rintro e w' ⟨rfl, hb⟩
  rw [h0]
  go_wp2_with fail
  go_ret
  exact ⟨by rw [Ha.out]; rfl, hb⟩
 ·have Ha := Lib.hid (show l.any p = true by
   rw [List.any_eq_true]
   exact ⟨obj l k, by rw [obj_lt hk]; exact List.getElem_mem hk, h1⟩)
  have hd : decide ((0 : Int) ≤ (k : Int)) = true := by simp
  clear h1 hp
  go_enter Tryz.func90, Tryz.ntmps90
  go_wp2_with fail
  refine Hi.out.mono ?_
  rintro e w' ⟨rfl, hb⟩
  rw [h0]
  go_wp2_with fail
  go_ret
  exact ⟨by rw [Ha.out]; first | rfl | simp, hb⟩
set_option maxHeartbeats 400000 in
theorem needs11_any (o : Obj) (lv : Value) (S : Nat → Prop) (id : Int) (a : Addr) (w : World) (ha : a.spot = none) (ho : ObjIs S w o lv) (hc : w.cell? a = some (.int .i64 id)) :
  Calls Tryz.prog 91 #[.agg #[.int .i64 o.id, .int .i64 o.kind, lv, .string o.text], .pointer (some a)] w fun e w' => e = .returned (.bool (o.id == id)) ∧ Below w.heap.size w w' := by
 obtain ⟨b, off, sp⟩ := a
 simp only at ha
 subst ha
 obtain ⟨⟨p1, c1⟩, rfl⟩ := ho.1.shape
 obtain ⟨R, hR, hR1, hx, _, _, _⟩ := cls_box4 w (.int .i64 o.id) (.int .i64 o.kind) (.slice p1 o.links.length c1) (.string o.text) 46
 have hx0 := hx _ hR1
 have hc2 := below_cell (hR.below _ hR1) hc
 have hbw := hR.below _ hR1
 clear hx hR1 hR hc ho
 generalize hq : (o.id == id) = q
 go_enter Tryz.func91, Tryz.ntmps91
 go_wp2_with fail
 go_ret
 exact ⟨rfl, hbw⟩
theorem wpList_append_int2 {ops : Array Oper} {rest : List Oper} {o : Oper} {a : Act} {w : World} {Q : Exit → Act → World → Prop} (hgd : o.guard = none) (s x : Operand)
  (ho : o.op = .call { callee := .builtin .append, args := #[s, x], argTypes := #[44, 44] }) {B n : Nat} {v : Value} {xs : List Value} {z : Int}
  (hG : w.ownsRow B 3 1 v n xs) (hl : (n + 1) * 8 ≤ 140737488351232) (hB : B ≤ w.heap.size)
  (hs : a.eval s = v) {N : Nat} (hx : a.eval x = .slice (some ⟨N, 0, none⟩) 1 1) (hN : N = w.heap.size)
  (h : ∀ v' w', w'.ownsRow B 3 1 v' (n + 1) (xs ++ [.int .i64 z]) → Upd (fun b => v.ownBlock = some b) w w' → (v'.ownBlock = v.ownBlock ∨ v'.ownBlock = some (w.heap.size + 1)) → wpList Tryz.prog ops Q rest (a.put o.dst v') w') :
  wpList Tryz.prog ops Q (o :: rest) a (w.alloc (.cells #[.int .i64 z] 3)) := by
 subst hN
 obtain ⟨i0, hi, hz0, hz1, hz2⟩ := info_parts Tryz.infoInt
 refine wpList_append_own_at _ hgd s x 44 ho B 3 i0 _ 1 8 Tryz.underlying44 hi hz0 hz1 hz2 rfl (by decide) v n _ hs (hG.alloc _) ⟨w.heap.size, 0, none⟩ 1 1 [.int .i64 z] hx rfl
  (World.news_of_block (cs := #[.int .i64 z]) (t := 3) (fr := (0, 0)) (heap_alloc_new w _)) ?_ ?_ (by omega) (by simp; omega) ?_
 ·intro u hu
  simp only [List.mem_cons, List.not_mem_nil, or_false] at hu
  subst hu; rfl
 ·unfold maxLen; omega
 ·intro v' w' hown' hgrow _ hat
  exact h v' w' hown' (Upd.grown ((Upd.refl _ _).alloc _) hgrow (fun k hk _ => hk)) (by simpa using hat)
def NeedAt (S : Nat → Prop) (B J : Nat) (w : World) (xs : List Int) : Prop :=
 ∃ v, w.ownsRow B 3 1 v xs.length (xs.map (Value.int .i64)) ∧ v.ownBlock ≠ some J ∧ (∀ b, S b → v.ownBlock ≠ some b) ∧ w.heap[J]? = some (.cells #[v] 44 (0, 0))
theorem NeedAt.below {S : Nat → Prop} {B J : Nat} {w w' : World} {xs : List Int} (h : NeedAt S B J w xs) (hb : Below w.heap.size w w') : NeedAt S B J w' xs := by
 obtain ⟨v, h1, h2, h3, h4⟩ := h
 exact ⟨v, own_below h1 hb, h2, h3, (hb.block _ (lt_of_block h4)).trans h4⟩
theorem need_end {S : Nat → Prop} {B J : Nat} {w xo w9 : World} {v v' : Value} {xs : List Int} {z : Int} (hB : B ≤ J) (hJw : J < w.heap.size) (hSw : ∀ b, S b → b < w.heap.size) (hown : w.ownsRow B 3 1 v xs.length (xs.map (Value.int .i64))) (hvJ : v.ownBlock ≠ some J) (hvS : ∀ b, S b → v.ownBlock ≠ some b)
  (hcJ : w.heap[J]? = some (.cells #[v] 44 (0, 0))) (hb : Below w.heap.size w xo) (hG : w9.ownsRow B 3 1 v' (xs.length + 1) (xs.map (Value.int .i64) ++ [.int .i64 z])) (hu : Upd (fun b => v.ownBlock = some b) xo w9) (hat : v'.ownBlock = v.ownBlock ∨ v'.ownBlock = some (xo.heap.size + 1)) :
  NeedAt S B J (w9.setCell ⟨J, 0, none⟩ v') (xs ++ [z]) ∧ Below B w (w9.setCell ⟨J, 0, none⟩ v') := by
 have h1 := hb.size
 have hJ9 : w9.heap[J]? = some (.cells #[v] 44 (0, 0)) := hu.blk ((hb.block _ hJw).trans hcJ) hvJ
 have hu2 : Upd (fun b => b = J) w9 (w9.setCell ⟨J, 0, none⟩ v') := (Upd.refl (fun b => b = J) w9).setCell (p := ⟨J, 0, none⟩) (fun _ => rfl) _
 have hv' : v'.ownBlock ≠ some J := by
  rcases hat with h | h
  ·rw [h]; exact hvJ
  ·rw [h]; intro e; cases e; omega
 have hvS' : ∀ b, S b → v'.ownBlock ≠ some b := fun b hS => by
  rcases hat with h | h
  ·rw [h]; exact hvS b hS
  ·rw [h]; intro e; cases e; have := hSw _ hS; omega
 refine ⟨⟨v', ?_, hv', hvS', block_setCell (j := 0) hJ9 v'⟩, ?_⟩
 ·rw [List.length_append, List.length_singleton, List.map_append]
  exact own_upd hG hu2 (fun g hg e => hv' (by rw [hg, e]))
 ·exact (hb.mono (by omega)).trans ((hu.below (by omega) (fun b hb => (hown.lt b hb).1)).trans (hu2.below (B := B) (by have := hu.size; omega) (fun b e => by omega)))
theorem upd_ints {T S : Nat → Prop} {w w' : World} {v : Value} {xs : List Int} (h : IntsV S w v xs) (hu : Upd T w w') (hS : ∀ b, S b → b < w.heap.size) (hT : ∀ b, S b → ¬ T b) : IntsV S w' v xs :=
 h.same fun b hb => hu.block b (hS b hb) (hT b hb)
set_option maxRecDepth 100000 in
set_option maxHeartbeats 4000000 in
theorem need_any (l : List Obj) (p : Psh) (ids : List Int) (pv lv iv : Value) (pb lb J B : Nat) (S S1 S2 : Nat → Prop) (w : World) (xs : List Int) (hl : StoreV S1 w lv l) (hp : StoreV S2 w pv p.objects) (hi : IntsV S w iv ids) (hr : Rising l)
  (h1 : ∀ b, S1 b → b < B) (h2 : ∀ b, S2 b → b < B) (hS : ∀ b, S b → b ≠ J ∧ b < w.heap.size) (hpb : pb < B) (hlb : lb < B) (hB : B ≤ J)
  (hcp : w.cell? ⟨pb, 0, none⟩ = some pv) (hcl : w.cell? ⟨lb, 0, none⟩ = some lv) (hN : NeedAt S B J w xs) (hil : xs.length + ids.length ≤ 100000) :
  Calls Tryz.prog 89 #[iv, .pointer (some ⟨pb, 0, none⟩), .pointer (some ⟨lb, 0, none⟩), .pointer (some ⟨J, 0, none⟩)] w
   fun e w' => e = .returned (.tuple #[]) ∧ NeedAt S B J w' (xs ++ ids.filter (needB l p)) ∧ Below B w w' := by
 have hmf : ∀ (fn : Fn) (first cap : Array Value) (w : World), (Instr.makeFunc fn first cap).run Tryz.prog w = .ok (.func fn first cap) w := fun _ _ _ _ => rfl
 have Hpo := Lib.hid (fun x (hx : Below B w x) => hp.same (w' := x) fun b hb => hx.block b (h2 b hb))
 have Hlo := Lib.hid (fun x (hx : Below B w x) => hl.same (w' := x) fun b hb => hx.block b (h1 b hb))
 have Hcp := Lib.hid (fun x (hx : Below B w x) => (hx.cell (p := ⟨pb, 0, none⟩) hpb).trans hcp)
 have Hcl := Lib.hid (fun x (hx : Below B w x) => (hx.cell (p := ⟨lb, 0, none⟩) hlb).trans hcl)
 obtain ⟨pa, pc, rfl⟩ := hp.vshape
 obtain ⟨la, lc, rfl⟩ := hl.vshape
 obtain ⟨⟨ia, ic⟩, rfl⟩ := hi.shape
 obtain ⟨n, hn⟩ : ∃ n, n = ids.length := ⟨_, rfl⟩
 have h63 : n ≤ 100000 := by omega
 have HI0 := Lib.hid hi
 rw [← hn]
 rw [← hn] at HI0 hil
 have Hn := Lib.hid hn
 have Hri := Lib.hid hr
 have HS := Lib.hid hS
 clear hn hi hp hl hcp hcl h1 h2 hr hS
 have hNl := hN
 go_enter Tryz.func89, Tryz.ntmps89
 go_wp2_with fail
 go_loopw [10] (fun i wr => ∃ k : Nat, k ≤ n ∧ i = .int .i64 k ∧ Hid (NeedAt S B J wr (xs ++ (ids.take k).filter (needB l p))) ∧ Hid (IntsV S wr (.slice ia n ic) ids) ∧ Hid (w.heap.size ≤ wr.heap.size ∧ Below B w wr)) (fun i _ => n - (intOf i).toNat)
 case atStart => exact ⟨0, by omega, rfl, by show NeedAt S B J w _; simpa using hNl, HI0.out, Nat.le_refl _, Below.refl _ _⟩
 case round =>
  obtain ⟨k, hk, rfl, HN, HI, HB⟩ := hrel
  clear hNl hN
  have Hfl := Lib.hid (show (xs ++ (ids.take k).filter (needB l p)).length ≤ 100000 by
   rw [List.length_append]
   have := List.length_filter_le (needB l p) (ids.take k)
   rw [List.length_take] at this
   have := Hn.out
   omega)
  by_cases hlt : k < n
  ·obtain ⟨a9, n9, c9, HN9, e9, _, _, _, h49⟩ := HI.out.open
   cases e9
   obtain ⟨b, off, rfl, hSb, k0⟩ := h49 (by omega)
   have x0 := k0 k wr hlt (Below.refl _ _)
   have Htk := Lib.hid (show (ids.take (k + 1)).filter (needB l p) = (ids.take k).filter (needB l p) ++ (if needB l p (nth ids k) then [nth ids k] else []) by
    rw [List.take_succ_eq_append_getElem (by have := Hn.out; omega), List.filter_append, nth_lt (by have := Hn.out; omega)]
    congr 1
    cases e : needB l p ids[k] <;> simp [e])
   clear k0 h49
   obtain ⟨v, hown, hvJ, hvS, hcJ⟩ := HN.out
   obtain ⟨va, vc, rfl⟩ := own_shape hown
   obtain ⟨vn, hvn⟩ : ∃ vn, vn = (xs ++ (ids.take k).filter (needB l p)).length := ⟨_, rfl⟩
   rw [← hvn] at hown hvJ hvS hcJ
   have Hvn := Lib.hid hvn
   have hJw := lt_of_block hcJ
   obtain ⟨Q, hQ, hQ1, hy⟩ := cls_box wr #[.int .i64 (nth ids k)] 3
   have y0 := hy 0 _ rfl
   clear hy
   have hQb := hQ.below
   have hQn := hQ.next
   have y01 := y0 _ hQ1
   have cJ := fun x (hx : In Q x) => block_cell (w := x) (j := 0) ((hQb x hx).block _ hJw |>.trans hcJ) rfl
   have fJ := fun x (hx : In Q x) => block_free (w := x) (j := 0) ((hQb x hx).block _ hJw |>.trans hcJ)
   have HBx := Lib.hid (fun x (hx : In Q x) => show Below B w x from HB.out.2.trans ((hQb x hx).mono (by have := HB.out.1; omega)))
   have c0 := fun x (hx : In Q x) => Hcp.out x (HBx.out x hx)
   have c1 := fun x (hx : In Q x) => Hcl.out x (HBx.out x hx)
   have c01 := c0 _ hQ1
   have Hct := Lib.hid (fun x (hx : In Q x) => containsFuncO_any p.objects _ (.pointer (some ⟨wr.heap.size, 0, none⟩)) _ 91 (fun o => o.id == nth ids k) x (Hpo.out x (HBx.out x hx)) (fun _ _ => rfl)
    (fun z i lv2 S9 hi9 hz hO => needs11_any _ _ S9 _ ⟨wr.heap.size, 0, none⟩ z rfl hO (y0 _ (hQn _ _ hx hz))))
   have Hkd := Lib.hid (fun x (hx : In Q x) => kind_any l _ _ (nth ids k) x (Hlo.out x (HBx.out x hx)) Hri.out)
   have Hnb := Lib.hid (show needB l p (nth ids k) = ((nth ids k != 0) && !(p.objects.any fun o => o.id == nth ids k) && (kindOf l (nth ids k) == 0)) from rfl)
   have HE := Lib.hid (fun w9 v' xo (hxo : In Q xo) hG9 hu9 hat9 => need_end (z := nth ids k) (v' := v') (xo := xo) (w9 := w9) (S := S) hB hJw (fun b hb => by have := (HS.out b hb).2; have := HB.out.1; omega) (by rw [← hvn]; exact hown) hvJ hvS hcJ (hQb _ hxo) hG9 hu9 hat9)
   have HIn := Lib.hid (fun x (hx : In Q x) => show IntsV S x (.slice (some ⟨b, off, none⟩) n ic) ids from HI.out.below (hQb x hx))
   have HJ9 := Lib.hid (fun xo w9 (hxo : In Q xo) (hu9 : Upd (fun b => (Value.slice va vn vc).ownBlock = some b) xo w9) => hu9.blk (((hQb _ hxo).block _ hJw).trans hcJ) hvJ)
   have hi1 : (0 : Int) ≤ (k : Int) := by omega
   have hi2 : (k : Int) < (n : Int) := by omega
   clear hvn
   generalize hid : nth ids k = id at *
   have part : ∀ (f : Bool), needB l p id = f → f = false → ∀ x, In Q x → NeedAt S B J x (xs ++ (ids.take (k + 1)).filter (needB l p)) := fun f h1 h2 x hx => by
    rw [Htk.out, h1, h2]; simp only [Bool.false_eq_true, if_false, List.append_nil]
    exact HN.out.below (hQb x hx)
   have Part := Lib.hid part
   clear part
   cases hct : (p.objects.any fun o => o.id == id)
   all_goals rw [hct] at Hct Hnb
   ·by_cases h0 : id = 0
    ·have q0 : (id != 0) = false := by simpa using h0
     have Hno := Lib.hid (show needB l p id = false by rw [Hnb.out, q0]; rfl)
     clear h0
     go_wp2_with fail
     refine (Hct.out _ hQ1).mono ?_
     rintro e w2 ⟨rfl, hb2⟩
     have hQ2 := hQn _ _ hQ1 hb2
     have y02 := y0 _ hQ2
     clear hb2 y01 c01
     go_wp2_with fail
     go_roundw
     case rel => exact ⟨k + 1, by omega, by go_num, Part.out _ Hno.out rfl _ hQ2, HIn.out _ hQ2, by have := (hQb _ hQ2).size; have := HB.out.1; omega, HBx.out _ hQ2⟩
     case measure => simp [intOf]; omega
    ·have q0 : (id != 0) = true := by simpa using h0
     by_cases hkd : kindOf l id = 0
     ·have q1 : (kindOf l id == 0) = true := by simpa using hkd
      have Hyes := Lib.hid (show needB l p id = true by rw [Hnb.out, q0, q1]; rfl)
      rw [hkd] at Hkd
      clear h0 hkd q1
      go_wp2_with fail
      refine (Hct.out _ hQ1).mono ?_
      rintro e w2 ⟨rfl, hb2⟩
      have hQ2 := hQn _ _ hQ1 hb2
      have y02 := y0 _ hQ2
      have c12 := c1 _ hQ2
      clear hb2 y01 c01
      go_wp2_with fail
      refine (Hkd.out _ hQ2).mono ?_
      rintro e w3 ⟨rfl, hb3⟩
      have hQ3 := hQn _ _ hQ2 hb3
      have y03 := y0 _ hQ3
      have j3 := cJ _ hQ3
      have hown3 := own_below hown (hQb _ hQ3)
      have hsz3 : B ≤ w3.heap.size := by have := (hQb _ hQ3).size; omega
      clear hb3 y02 c12
      go_wp2_with (at_builtin; refine wpList_append_int2 rfl _ _ rfl hown3 (by have := Hfl.out; have := Hvn.out; omega) hsz3 rfl rfl (by first | rfl | simp) ?_)
      intro v' w9 hG9 hu9 hat9
      have Hend := Lib.hid (HE.out w9 v' w3 hQ3 (by rw [← Hvn.out, List.map_append, List.append_assoc]; exact hG9) hu9 hat9)
      have hJ9 := HJ9.out _ _ hQ3 hu9
      have cJ9 := block_cell (j := 0) hJ9 rfl
      have fJ9 := block_free (j := 0) hJ9
      have HI9 := Lib.hid (show IntsV S (w9.setCell ⟨J, 0, none⟩ v') (.slice (some ⟨b, off, none⟩) n ic) ids from
       upd_ints (upd_ints (HIn.out _ hQ3) hu9 (fun b hb => by have := (HS.out b hb).2; have := HB.out.1; have := (hQb _ hQ3).size; omega) (fun b hb e => hvS b hb e)) ((Upd.refl (fun b => b = J) w9).setCell (p := ⟨J, 0, none⟩) (fun _ => rfl) v') (fun b hb => by have := (HS.out b hb).2; have := HB.out.1; have := (hQb _ hQ3).size; have := hu9.size; omega) (fun b hb e => (HS.out b hb).1 e))
      obtain ⟨pv9, hpv9⟩ : ∃ p : Option Addr × Nat × Nat, v' = .slice p.1 p.2.1 p.2.2 := let ⟨a, c, h⟩ := own_shape hG9; ⟨(a, _, c), h⟩
      have hsz9 : w.heap.size ≤ w9.heap.size := by have := HB.out.1; have := (hQb _ hQ3).size; have := hu9.size; omega
      clear hG9 hu9 hat9 hJ9 hown3
      subst hpv9
      go_wp2_with fail
      go_roundw
      case rel => exact ⟨k + 1, by omega, by go_num, by rw [Htk.out, Hyes.out, if_pos rfl, ← List.append_assoc]; exact Hend.out.1, HI9.out, by simp [World.setCell]; exact hsz9, (HB.out.2).trans Hend.out.2⟩
      case measure => simp [intOf]; omega
     ·have q1 : (kindOf l id == 0) = false := by simpa using hkd
      have Hno := Lib.hid (show needB l p id = false by rw [Hnb.out, q0, q1]; rfl)
      clear h0 hkd
      go_wp2_with fail
      refine (Hct.out _ hQ1).mono ?_
      rintro e w2 ⟨rfl, hb2⟩
      have hQ2 := hQn _ _ hQ1 hb2
      have y02 := y0 _ hQ2
      have c12 := c1 _ hQ2
      clear hb2 y01 c01
      go_wp2_with fail
      refine (Hkd.out _ hQ2).mono ?_
      rintro e w3 ⟨rfl, hb3⟩
      have hQ3 := hQn _ _ hQ2 hb3
      clear hb3 y02 c12
      go_wp2_with fail
      go_roundw
      case rel => exact ⟨k + 1, by omega, by go_num, Part.out _ Hno.out rfl _ hQ3, HIn.out _ hQ3, by have := (hQb _ hQ3).size; have := HB.out.1; omega, HBx.out _ hQ3⟩
      case measure => simp [intOf]; omega
   ·have Hno := Lib.hid (show needB l p id = false by rw [Hnb.out]; simp)
    cases q0 : (id != 0)
    all_goals
     go_wp2_with fail
     refine (Hct.out _ hQ1).mono ?_
     rintro e w2 ⟨rfl, hb2⟩
     have hQ2 := hQn _ _ hQ1 hb2
     have y02 := y0 _ hQ2
     clear hb2 y01 c01
     go_wp2_with fail
     go_roundw
     case rel => exact ⟨k + 1, by omega, by go_num, Part.out _ Hno.out rfl _ hQ2, HIn.out _ hQ2, by have := (hQb _ hQ2).size; have := HB.out.1; omega, HBx.out _ hQ2⟩
     case measure => simp [intOf]; omega
  ·obtain rfl : k = n := by omega
   have HX := Lib.hid (show ids.take k = ids by rw [Hn.out]; exact List.take_length)
   go_wp2_with fail
   go_end0
   exact ⟨rfl, by have := HN.out; rw [HX.out] at this; exact this, HB.out.2⟩
end Go.Proofs.YtjdgpgfiomnjkaaGreatDoor
namespace Go.Proofs.YtjdgpgfiomnjkaaGreatDoor
open Go.RowKit
set_option linter.unusedVariables false
set_option linter.unusedSimpArgs false
set_option linter.unusedSectionVars false
variable [Ghost]
theorem NeedAt.re {S S' : Nat → Prop} {B J : Nat} {w : World} {xs : List Int} (h : NeedAt S B J w xs) (hS : ∀ b, S' b → b < B ∨ w.heap.size ≤ b) : NeedAt S' B J w xs := by
 obtain ⟨v, h1, h2, h3, h4⟩ := h
 refine ⟨v, h1, h2, fun b hb e => ?_, h4⟩
 have := h1.lt b e
 rcases hS b hb with h | h <;> omega
theorem NeedAt.fresh {S : Nat → Prop} {B J : Nat} {x : World} {xs : List Int} (h : NeedAt S B J x xs) (o : Go.Obj) : NeedAt (fun b => b = x.heap.size) B J (x.alloc o) xs :=
 (h.re (S' := fun b => b = x.heap.size) (fun b hb => .inr (by omega))).below ((Below.refl _ _).alloc (Nat.le_refl _) _)
theorem linksTo_next {p : Psh} {k : Nat} (h : k < p.objects.length) : linksTo p (k + 1) = linksTo p k ++ (obj p.objects k).links := by
 unfold linksTo; rw [List.take_succ_eq_append_getElem h, List.flatMap_append, obj_lt h]; simp
theorem newsTo_next {p : Psh} {k : Nat} (h : k < p.updates.length) : newsTo p (k + 1) = newsTo p k ++ [(mv p.updates k).new] := by
 unfold newsTo; rw [List.take_succ_eq_append_getElem h, List.map_append, mv_lt h]; rfl
theorem links_count {l : List Obj} (hc : ∀ o ∈ l, checkObj o = 0) : (l.flatMap (·.links)).length ≤ 4 * l.length := by
 induction l with
 | nil => simp
 | cons o l ih =>
  rw [List.flatMap_cons, List.length_append, List.length_cons]
  have h1 := (checkObj_ok (hc o List.mem_cons_self)).2.2.1
  have h2 := ih fun x hx => hc x (List.mem_cons_of_mem _ hx)
  omega
theorem linksTo_length {p : Psh} (h : checkPsh p = 0) (k : Nat) : (linksTo p k).length ≤ 48 := by
 obtain ⟨h1, h2, _⟩ := checkPsh_zero h
 have := links_count (l := p.objects.take k) fun o ho => eachE_zero h2 o (List.mem_of_mem_take ho)
 unfold linksTo
 rw [List.length_take] at this
 omega
theorem newsTo_length (p : Psh) (k : Nat) (h : p.updates.length ≤ 4) : (newsTo p k).length ≤ 4 := by unfold newsTo; rw [List.length_map, List.length_take]; omega
theorem own_holdsI {B g cap : Nat} {w : World} {xs : List Int} (h : w.ownsRow B 3 1 (.slice (some ⟨g, 0, none⟩) xs.length cap) xs.length (xs.map (Value.int .i64))) : Go.Sort.Holds (Value.int .i64) w g 0 xs.toArray ∧ g < w.heap.size ∧ xs.length ≤ cap ∧ cap ≤ 9223372036854775807 := by
 obtain ⟨hl, h2⟩ := h
 rcases h2 with ⟨e, _⟩ | ⟨g', cap', cur, e, hB, hg, hn, hm, hcs, hx⟩
 ·cases e
 ·cases e
  refine ⟨fun j hj => ?_, lt_of_block hg, hn, by unfold maxLen at hm; omega⟩
  have hj' : j < xs.length := by simpa using hj
  refine ⟨?_, by rw [Nat.zero_add]; exact block_free hg⟩
  rw [Nat.zero_add]
  refine block_cell hg ?_
  have e1 : (xs.map (Value.int .i64))[j]? = some (Value.int .i64 xs[j]) := by rw [List.getElem?_map, List.getElem?_eq_getElem hj']; rfl
  rw [← hx, List.getElem?_take] at e1
  split at e1
  ·rw [getElem!_pos xs.toArray j hj]; simpa using e1
  ·cases e1
theorem holds_ints {w : World} {g cap : Nat} {ys zs : List Int} (h : Go.Sort.Holds (Value.int .i64) w g 0 (ys ++ zs).toArray) (hc : ys.length ≤ cap) (hm : cap ≤ 9223372036854775807) (hl : ys.length * 8 ≤ 140737488351232) (hi : ∀ y ∈ ys, I64 y) :
  IntsV (fun b => b = g) w (.slice (some ⟨g, 0, none⟩) ys.length cap) ys :=
 if h0 : ys.length = 0 then by
  obtain rfl := List.length_eq_zero_iff.1 h0
  exact IntsV.nil _ _ _ _ hm
 else IntsV.mk hc hm hl ⟨rfl, .inr ⟨World.block_lt_of_cell? w _ (h 0 (by simp; omega)).1, fun k hk => (h k (by simp; omega)).2⟩⟩ (fun i hn => by
  have := (h i (by simp; omega)).1
  rw [this, getElem!_pos _ i (by simp; omega), nth_lt hn]
  simp [List.getElem_append_left hn]) hi
set_option maxRecDepth 100000 in
set_option maxHeartbeats 8000000 in
theorem needsF_any (l : List Obj) (p : Psh) (lv ov uv : Value) (S1 S2 S3 : Nat → Prop) (w : World) (hl : StoreV S1 w lv l) (ho : StoreV S2 w ov p.objects) (hu : MvsV S3 w uv p.updates) :
  Calls Tryz.prog 28 #[lv, .agg #[ov, uv, .bool p.force]] w fun e w' => RetIntsF w w' e (needsL l p) (needsE l p) := by
 have hmf : ∀ (fn : Fn) (first cap : Array Value) (w : World), (Instr.makeFunc fn first cap).run Tryz.prog w = .ok (.func fn first cap) w := fun _ _ _ _ => rfl
 have Hc := Lib.hid (fun x (hx : Below w.heap.size w x) => storeCheck_any l _ _ x (hl.below hx))
 have Hp := Lib.hid (fun x (hx : Below w.heap.size w x) => pushCheck_any p _ _ _ _ x (ho.below hx) (hu.below hx))
 have HE := Lib.hid (show needsE l p = if checkStore l ≠ 0 then checkStore l else checkPsh p from rfl)
 have HL := Lib.hid (show needsL l p = if needsE l p = 0 then uniq (needG l p) else [] from rfl)
 have Hl := Lib.hid hl
 have Ho := Lib.hid ho
 have Hu := Lib.hid hu
 obtain ⟨la, lc, rfl⟩ := hl.vshape
 obtain ⟨oa, oc, rfl⟩ := ho.vshape
 obtain ⟨⟨ua, uc⟩, rfl⟩ := hu.shape
 obtain ⟨R, hR, hR1, hy, hz⟩ := cls_two w #[.slice la l.length lc] #[.slice oa p.objects.length oc, .slice ua p.updates.length uc, .bool p.force] 22 26
 have y0 := hy 0 _ rfl
 have z0 := hz 0 _ rfl
 have z1 := hz 1 _ rfl
 have z2 := hz 2 _ rfl
 have hRb := hR.below
 have hRn := hR.next
 have y01 := y0 _ hR1
 clear hy hz hl ho hu
 by_cases hc : checkStore l = 0
 case neg =>
  have HX := Lib.hid (show needsE l p = checkStore l by rw [HE.out, if_pos hc])
  have HX1 := Lib.hid (show needsL l p = [] by rw [HL.out, HX.out, if_neg hc])
  have q1 : (checkStore l == 0) = false := by simpa using hc
  have q2 : (checkStore l != 0) = true := by simpa using hc
  rw [HX.out, HX1.out]
  clear hc
  go_enter Tryz.func28, Tryz.ntmps28
  go_wp2_with fail
  refine (Hc.out _ (hRb _ hR1)).mono ?_
  rintro e w2 ⟨rfl, hb2⟩
  have hR2 := hRn _ _ hR1 hb2
  clear hb2
  go_wp2_with fail
  go_ret2
  exact ⟨_, rfl, IntsV.nil _ _ _ _ (by omega), hRb _ hR2⟩
 case pos =>
  by_cases hp : checkPsh p = 0
  case neg =>
   have HX := Lib.hid (show needsE l p = checkPsh p by rw [HE.out, if_neg (by simp [hc])])
   have HX1 := Lib.hid (show needsL l p = [] by rw [HL.out, HX.out, if_neg hp])
   have q2 : (checkPsh p != 0) = true := by simpa using hp
   rw [HX.out, HX1.out]
   rw [hc] at Hc
   clear hc hp
   go_enter Tryz.func28, Tryz.ntmps28
   go_wp2_with fail
   refine (Hc.out _ (hRb _ hR1)).mono ?_
   rintro e w2 ⟨rfl, hb2⟩
   have hR2 := hRn _ _ hR1 hb2
   have a0 := z0 _ hR2
   have a1 := z1 _ hR2
   have a2 := z2 _ hR2
   clear hb2 y01
   go_wp2_with fail
   refine (Hp.out _ (hRb _ hR2)).mono ?_
   rintro e w3 ⟨rfl, hb3⟩
   have hR3 := hRn _ _ hR2 hb3
   clear hb3
   go_wp2_with fail
   go_ret2
   exact ⟨_, rfl, IntsV.nil _ _ _ _ (by omega), hRb _ hR3⟩
  case pos =>
   have HX := Lib.hid (show needsE l p = 0 by rw [HE.out, if_neg (by simp [hc]), hp])
   have HX1 := Lib.hid (show needsL l p = uniq (needG l p) by rw [HL.out, HX.out, if_pos rfl])
   have Hri := Lib.hid (checkStore_rising hc)
   have h4 := (mvs_ok.1 (checkPsh_zero hp).2.2).many
   have Hll := Lib.hid (fun k => linksTo_length hp k)
   have Hnl := Lib.hid (fun k => newsTo_length p k h4)
   have HGd := Lib.hid (show needG l p = (linksTo p p.objects.length ++ newsTo p p.updates.length).filter (needB l p) from rfl)
   have hm := (checkPsh_zero hp).1
   rw [HX.out, HX1.out]
   rw [hc] at Hc
   rw [hp] at Hp
   clear hc hp HE HL HX HX1
   go_enter Tryz.func28, Tryz.ntmps28
   go_wp2_with fail
   refine (Hc.out _ (hRb _ hR1)).mono ?_
   rintro e w2 ⟨rfl, hb2⟩
   have hR2 := hRn _ _ hR1 hb2
   have a0 := z0 _ hR2
   have a1 := z1 _ hR2
   have a2 := z2 _ hR2
   clear hb2 y01
   go_wp2_with fail
   refine (Hp.out _ (hRb _ hR2)).mono ?_
   rintro e w3 ⟨rfl, hb3⟩
   have hR3 := hRn _ _ hR2 hb3
   have hW := hR.alloc _ (.cells #[.slice none 0 0] 44) hR3
   have a01 := z0 _ hW
   have a11 := z1 _ hW
   have b01 := y0 _ hW
   have hJ0 : w.heap.size + 1 < w3.heap.size := World.block_lt_of_cell? w3 _ (z0 _ hR3)
   have hN0 : NeedAt (fun b => b < w3.heap.size) w3.heap.size w3.heap.size (w3.alloc (.cells #[.slice none 0 0] 44)) [] :=
    ⟨.slice none 0 0, World.ownsRow_nil _ _ _ _, by simp [Value.ownBlock], fun b _ => by simp [Value.ownBlock], heap_alloc_new w3 _⟩
   have hbW := hRb _ hW
   have hszW : (w3.alloc (.cells #[.slice none 0 0] 44)).heap.size = w3.heap.size + 1 := by simp
   clear hb3 a0 a1 a2 hR1 hR2 hR3 Hc Hp z2
   have go : ∀ (J : Nat) (W : World), J = w3.heap.size → W = w3.alloc (.cells #[.slice none 0 0] 44) → True := fun _ _ _ _ => trivial
   clear go
   go_wp2_with fail
   generalize hgW : w3.alloc (.cells #[.slice none 0 0] 44) = W at *
   generalize hgJ : w3.heap.size = J at *
   clear hgW hgJ
   have HbW := Lib.hid hbW
   have Hx := Lib.hid (fun x (hx : Below J W x) => show Below w.heap.size w x from HbW.out.trans (hx.mono (by omega)))
   have HA0 := Lib.hid a01
   have HB0 := Lib.hid b01
   have Hp0 := Lib.hid (fun x (hx : Below J W x) => (hx.cell (p := ⟨w.heap.size + 1, 0, none⟩) (by show w.heap.size + 1 < J; omega)).trans HA0.out)
   have HA1 := Lib.hid a11
   have Hp1 := Lib.hid (fun x (hx : Below J W x) => (hx.cell (p := ⟨w.heap.size + 1, 1, none⟩) (by show w.heap.size + 1 < J; omega)).trans HA1.out)
   have Hl0 := Lib.hid (fun x (hx : Below J W x) => (hx.cell (p := ⟨w.heap.size, 0, none⟩) (by show w.heap.size < J; omega)).trans HB0.out)
   have HN := Lib.hid (fun (ids : List Int) (iv : Value) (S : Nat → Prop) (x : World) (xs : List Int) (hx : Below J W x) (hi : IntsV S x iv ids) (hS : ∀ b, S b → b ≠ J ∧ b < x.heap.size) (hN : NeedAt S J J x xs) (hil : xs.length + ids.length ≤ 100000) =>
    need_any l p ids _ _ iv (w.heap.size + 1) w.heap.size J J S (fun b => b < w.heap.size) (fun b => b < w.heap.size) x xs ((Hl.out.lt.weaken fun _ h => h.2).below (Hx.out x hx)) ((Ho.out.lt.weaken fun _ h => h.2).below (Hx.out x hx)) hi Hri.out
     (fun b hb => by omega) (fun b hb => by omega) hS (by omega) (by omega) (Nat.le_refl _) (Hp0.out x hx) (Hl0.out x hx) hN hil)
   clear a01 a11 b01 hbW y0 z0 z1 hRb hRn hW
   obtain ⟨m, hmm⟩ : ∃ m, m = p.objects.length := ⟨_, rfl⟩
   have Hm := Lib.hid hmm
   have hm63 : m ≤ 12 := by omega
   rw [← hmm]
   clear hmm hm
   go_loopw [26] (fun i wr => ∃ k : Nat, k ≤ m ∧ i = .int .i64 k ∧ Hid (NeedAt (fun b => b < J) J J wr ((linksTo p k).filter (needB l p))) ∧ Hid (Below J W wr)) (fun i _ => m - (intOf i).toNat)
   case atStart => exact ⟨0, by omega, rfl, hN0, Below.refl _ _⟩
   case round =>
    obtain ⟨k, hk, rfl, HK, HB⟩ := hrel
    clear hN0
    by_cases hlt : k < m
    ·obtain ⟨a9, n9, c9, la9, ln9, lc9, HN9, e9, _, _, _, h49, h59⟩ := ((Ho.out.lt.weaken (S' := fun b => b < w.heap.size) fun _ h => h.2).below (Hx.out wr HB.out)).open
     cases e9
     obtain ⟨b, off, rfl, hb, k0, k1, k2, k3⟩ := h49 (by have := Hm.out; omega)
     have hkl : k < p.objects.length := by have := Hm.out; omega
     have x0 := k0 k wr hkl (Below.refl _ _)
     have x1 := k1 k wr hkl (Below.refl _ _)
     have x2 := k2 k wr hkl (Below.refl _ _)
     have x3 := k3 k wr hkl (Below.refl _ _)
     have hlk := h59 k hkl
     obtain ⟨Q, hQ, hQ1, q0, q1, q2, q3⟩ := cls_box4 wr (.int .i64 (obj p.objects k).id) (.int .i64 (obj p.objects k).kind) (.slice (la9 k) (ln9 k) (lc9 k)) (.string (obj p.objects k).text) 46
     have q21 := q2 _ hQ1
     have hBQ : Below J W (wr.alloc (.cells #[.int .i64 (obj p.objects k).id, .int .i64 (obj p.objects k).kind, .slice (la9 k) (ln9 k) (lc9 k), .string (obj p.objects k).text] 46)) :=
      HB.out.trans ((hQ.below _ hQ1).mono (by have := HB.out.size; omega))
     have hl1 := linksTo_next hkl
     have hln : (obj p.objects k).links.length ≤ 48 := by have := Hll.out (k + 1); rw [hl1, List.length_append] at this; omega
     have Hcall := Lib.hid (HN.out _ _ (fun b => b < w.heap.size) _ ((linksTo p k).filter (needB l p)) hBQ (hlk.1.below (hQ.below _ hQ1)) (fun b hb => by have := HB.out.size; have := (hQ.below _ hQ1).size; omega)
      ((HK.out.re (S' := fun b => b < w.heap.size) (fun b hb => .inl (by omega))).below (hQ.below _ hQ1)) (by have := List.length_filter_le (needB l p) (linksTo p k); have := Hll.out k; omega))
     have Hl1 := Lib.hid (show (linksTo p (k + 1)).filter (needB l p) = (linksTo p k).filter (needB l p) ++ (obj p.objects k).links.filter (needB l p) by rw [hl1, List.filter_append])
     have hi1 : (0 : Int) ≤ (k : Int) := by omega
     have hi2 : (k : Int) < (m : Int) := by omega
     have c0 := Hp0.out wr HB.out
     have HBQ := Lib.hid hBQ
     clear k0 k1 k2 k3 h49 h59 hlk hl1 hln hBQ q0 q1 q2 q3
     go_wp2_with fail
     refine Hcall.out.mono ?_
     rintro e w7 ⟨rfl, hN7, hb7⟩
     have HX := Lib.hid (And.intro (hN7.re (S' := fun b => b < J) (fun b hb => .inl hb)) (HBQ.out.trans (hb7.mono (Nat.le_refl _))))
     clear hN7 hb7
     go_wp2_with fail
     go_roundw
     case rel => exact ⟨k + 1, by omega, by go_num, by rw [Hl1.out]; exact HX.out.1, HX.out.2⟩
     case measure => simp [intOf]; omega
    ·obtain rfl : k = m := by omega
     have d1 := Hp1.out wr HB.out
     obtain ⟨un, hun⟩ : ∃ un, un = p.updates.length := ⟨_, rfl⟩
     have Hun := Lib.hid hun
     have hu63 : un ≤ 4 := by omega
     go_wp2_with fail
     rw [← hun]
     clear hun
     have HK1 := Lib.hid HK.out
     go_loopw [38] (fun i wr => ∃ j : Nat, j ≤ un ∧ i = .int .i64 j ∧ Hid (NeedAt (fun b => b < J) J J wr ((linksTo p k).filter (needB l p) ++ (newsTo p j).filter (needB l p))) ∧ Hid (Below J W wr)) (fun i _ => un - (intOf i).toNat)
     case atStart => exact ⟨0, by omega, rfl, by show NeedAt _ _ _ _ _; have := HK1.out; simpa [newsTo] using this, HB.out⟩
     case round =>
      obtain ⟨j, hj, rfl, HK2, HB2⟩ := hrel
      clear d1
      by_cases hlt2 : j < un
      ·obtain ⟨a9, n9, c9, HN9, e9, _, _, _, h49⟩ := (Hu.out.below (Hx.out wr HB2.out)).open
       cases e9
       have hju : j < p.updates.length := by have := Hun.out; omega
       obtain ⟨b, off, rfl, hb, k0, k1, k2⟩ := h49 (by omega)
       have x0 := k0 j wr hju (Below.refl _ _)
       have x1 := k1 j wr hju (Below.refl _ _)
       have x2 := k2 j wr hju (Below.refl _ _)
       obtain ⟨Q, hQ, hQ1, hq⟩ := cls_box wr #[.string (mv p.updates j).name, .int .i64 (mv p.updates j).old, .int .i64 (mv p.updates j).new] 107
       have q21 := hq 2 _ rfl _ hQ1
       have hBw := HB2.out.size
       have hbx : Below wr.heap.size wr ((wr.alloc (.cells #[.string (mv p.updates j).name, .int .i64 (mv p.updates j).old, .int .i64 (mv p.updates j).new] 107)).alloc (.cells #[.int .i64 (mv p.updates j).new] 3)) :=
        (hQ.below _ hQ1).trans ((Below.refl _ _).alloc (by simp) _)
       have HBx := Lib.hid (show Below J W ((wr.alloc (.cells #[.string (mv p.updates j).name, .int .i64 (mv p.updates j).old, .int .i64 (mv p.updates j).new] 107)).alloc (.cells #[.int .i64 (mv p.updates j).new] 3)) from HB2.out.trans (hbx.mono (by omega)))
       have hI := ints_new (wr.alloc (.cells #[.string (mv p.updates j).name, .int .i64 (mv p.updates j).old, .int .i64 (mv p.updates j).new] 107)) [(mv p.updates j).new] 3 (wr.heap.size + 1) (by simp) (by simp) (by intro x hx; rw [List.mem_singleton.1 hx]; exact (Hu.out.each hju).2.1)
       have hNf := (HK2.out.below (hQ.below _ hQ1)).fresh (.cells #[.int .i64 (mv p.updates j).new] 3)
       have hsz1 : (wr.alloc (.cells #[.string (mv p.updates j).name, .int .i64 (mv p.updates j).old, .int .i64 (mv p.updates j).new] 107)).heap.size = wr.heap.size + 1 := by simp
       rw [hsz1] at hNf
       have Hcall := Lib.hid (HN.out [(mv p.updates j).new] _ (fun b => b = wr.heap.size + 1) _ _ HBx.out hI (fun b hb => ⟨by have : J < W.heap.size := hszW ▸ Nat.lt_succ_self J; omega, by simp; omega⟩) hNf (by
        have := List.length_filter_le (needB l p) (linksTo p k); have := Hll.out k
        have := List.length_filter_le (needB l p) (newsTo p j); have := Hnl.out j
        rw [List.length_append, List.length_singleton]; omega))
       have Hn1 := Lib.hid (show (linksTo p k).filter (needB l p) ++ (newsTo p (j + 1)).filter (needB l p) = (linksTo p k).filter (needB l p) ++ (newsTo p j).filter (needB l p) ++ [(mv p.updates j).new].filter (needB l p) by rw [newsTo_next hju, List.filter_append, List.append_assoc])
       have hi1 : (0 : Int) ≤ (j : Int) := by omega
       have hi2 : (j : Int) < (un : Int) := by omega
       clear k0 k1 k2 h49 hI hNf hsz1 hbx hq
       go_wp2_with fail
       refine Hcall.out.mono ?_
       rintro e w7 ⟨rfl, hN7, hb7⟩
       have HX := Lib.hid (And.intro (hN7.re (S' := fun b => b < J) (fun b hb => .inl hb)) (HBx.out.trans (hb7.mono (Nat.le_refl _))))
       clear hN7 hb7
       go_wp2_with fail
       go_roundw
       case rel => exact ⟨j + 1, by omega, by go_num, by rw [Hn1.out]; exact HX.out.1, HX.out.2⟩
       case measure => simp [intOf]; omega
      ·obtain rfl : j = un := by omega
       have HG := Lib.hid (show (linksTo p k).filter (needB l p) ++ (newsTo p j).filter (needB l p) = needG l p by rw [HGd.out, List.filter_append, ← Hm.out, ← Hun.out])
       have hK3 := HK2.out
       rw [HG.out] at hK3
       obtain ⟨v, hown, hvJ, _, hcJ⟩ := hK3
       have Hi64 := Lib.hid (show ∀ y ∈ uniq (needG l p), I64 y from fun y hy => by
        rw [(uniq_spec _).2, mem_needG] at hy
        rcases hy.1 with ⟨o, ho, hx⟩ | ⟨u, hu, e⟩
        ·obtain ⟨i, hi, rfl⟩ := mem_obj ho
         obtain ⟨_, _, hO⟩ := Ho.out
         exact (hO i hi).1.2 y hx
        ·rw [← e]; exact (Hu.out.2 u hu).2.1)
       have Hul := Lib.hid (uniq_length (needG l p))
       have Hgl := Lib.hid (show (needG l p).length ≤ 52 by
        rw [← HG.out, List.length_append]
        have := List.length_filter_le (needB l p) (linksTo p k); have := Hll.out k
        have := List.length_filter_le (needB l p) (newsTo p j); have := Hnl.out j
        omega)
       generalize hgx : needG l p = xs at *
       have Hgx := Lib.hid hgx
       clear hgx
       obtain ⟨va, vc, rfl⟩ := own_shape hown
       have cJ := block_cell (j := 0) hcJ rfl
       have HBw := Lib.hid (Hx.out wr HB2.out)
       have hvc : vc ≤ 9223372036854775807 := by
        rcases hown.2 with ⟨e, _⟩ | ⟨_, _, _, e, _, _, _, hm, _⟩
        ·injection e with _ _ e3; omega
        ·injection e with _ _ e3; subst e3; unfold maxLen at hm; omega
       by_cases h0 : xs.length = 0
       ·obtain rfl : xs = [] := List.length_eq_zero_iff.1 h0
        have Hso := Lib.hid (Tryz.slices_Sort_int_none va vc wr)
        have Hco := Lib.hid (Tryz.slices_Compact_int_empty va vc wr)
        simp only [List.length_nil] at cJ
        clear hown hvJ hcJ h0
        go_wp2_with fail
        refine Hso.out.mono ?_
        rintro e w8 ⟨rfl, hw8⟩
        subst hw8
        go_wp2_with fail
        refine Hco.out.mono ?_
        rintro e w9 ⟨rfl, hw9⟩
        subst hw9
        go_wp2_with fail
        go_ret2
        exact ⟨.slice va 0 vc, rfl, by rw [Hgx.out, show uniq [] = [] from List.length_eq_zero_iff.1 (by have := uniq_length []; simp only [List.length_nil] at this; omega)]; exact IntsV.nil _ _ _ _ hvc, HBw.out⟩
       ·obtain ⟨g, rfl⟩ : ∃ g, va = some ⟨g, 0, none⟩ := by
         rcases hown.2 with ⟨_, h⟩ | ⟨g, _, _, e, _⟩
         ·exact absurd h h0
         ·cases e; exact ⟨g, rfl⟩
        obtain ⟨hH, hgw, hnc, _⟩ := own_holdsI hown
        have hgB := (hown.lt g rfl).1
        have hgJ : g ≠ J := fun e => hvJ (by rw [e]; rfl)
        have Hso := Lib.hid (Tryz.slices_Sort_int g 0 vc xs wr hH hgw (by have := Hgl.out; omega))
        have hsl : (xs.mergeSort fun x y => decide (x ≤ y)).length = xs.length := List.length_mergeSort xs
        have HS8 := Lib.hid (fun (w8 : World) nq os (hw8 : w8 = Go.Sort.grow (Go.Sort.putRow (Value.int .i64) (Go.Sort.ahead wr nq) g 0 (xs.mergeSort fun x y => decide (x ≤ y)).toArray) os) =>
         show Go.Sort.Holds (Value.int .i64) w8 g 0 (xs.mergeSort fun x y => decide (x ≤ y)).toArray ∧ Upd (fun b => b = g) wr w8 from by
         subst hw8
         refine ⟨Go.Sort.holds_grow _ _ _ _ _ _ (by simp [Go.Sort.ahead]; exact hgw) (Go.Sort.holds_putRow _ _ _ _ xs.toArray _ (Go.Sort.holds_ahead _ _ _ _ _ _ hH) (by simp [hsl])), ?_⟩
         exact (((upd_ahead wr nq).weaken (T' := fun b => b = g) (fun _ _ h => h.elim)).trans (upd_mapBlock _ g _) (fun _ _ h => h)).trans (upd_grow _ os) (fun _ _ h => h.elim))
        have HS9 := Lib.hid (fun (w8 w9 : World) q (h8 : Go.Sort.Holds (Value.int .i64) w8 g 0 (xs.mergeSort fun x y => decide (x ≤ y)).toArray) (hu8 : Upd (fun b => b = g) wr w8)
         (hw9 : w9 = Go.Sort.putRow (Value.int .i64) (Go.Sort.ahead w8 q) g 0 (Lib.compact (xs.mergeSort fun x y => decide (x ≤ y)) ++ List.replicate ((xs.mergeSort fun x y => decide (x ≤ y)).length - (Lib.compact (xs.mergeSort fun x y => decide (x ≤ y))).length) 0).toArray) =>
         show IntsV (fun b => w.heap.size ≤ b) w9 (.slice (some ⟨g, 0, none⟩) (uniq xs).length vc) (uniq xs) ∧ Below w.heap.size w w9 from by
         subst hw9
         have hul := Hul.out
         have hgl := Hgl.out
         have hcl := Lib.compact_length_le (xs.mergeSort fun x y => decide (x ≤ y))
         have hcl2 : (Lib.compact (xs.mergeSort fun x y => decide (x ≤ y))).length = (uniq xs).length := rfl
         refine ⟨(holds_ints (ys := uniq xs) (Go.Sort.holds_putRow _ _ _ _ (xs.mergeSort fun x y => decide (x ≤ y)).toArray _ (Go.Sort.holds_ahead _ _ _ _ _ _ h8) (by simp; omega)) (by omega) hvc (by omega) Hi64.out).weaken fun b hb => by have e : b = g := hb; omega, ?_⟩
         exact HBw.out.trans ((hu8.trans (((upd_ahead w8 q).weaken (T' := fun b => b = g) (fun _ _ h => h.elim)).trans (upd_mapBlock _ g _) (fun _ _ h => h)) (fun _ _ h => h)).below (HBw.out.size) (fun b hb => by omega)))
        have Hco := Lib.hid (fun w8 (h8 : Go.Sort.Holds (Value.int .i64) w8 g 0 (xs.mergeSort fun x y => decide (x ≤ y)).toArray) => by
         have := Tryz.slices_Compact_int g 0 vc (xs.mergeSort fun x y => decide (x ≤ y)) w8 h8 (by rw [hsl]; have := Hgl.out; omega) (by rw [hsl]; exact hnc)
         rw [show (Value.slice (some ⟨g, 0, none⟩) (xs.mergeSort fun x y => decide (x ≤ y)).length vc) = .slice (some ⟨g, 0, none⟩) xs.length vc by rw [hsl]] at this
         exact this)
        have HJ8 := Lib.hid (fun w8 (hu8 : Upd (fun b => b = g) wr w8) => block_cell (w := w8) (j := 0) (hu8.blk hcJ (fun e => hgJ e.symm)) rfl)
        have Huq := Lib.hid (show Lib.compact (xs.mergeSort fun x y => decide (x ≤ y)) = uniq xs from rfl)
        clear hown hvJ hcJ h0 hH hsl hgw
        go_wp2_with fail
        refine Hso.out.mono ?_
        rintro e w8 ⟨rfl, nq, os, hw8⟩
        obtain ⟨h8, hu8⟩ := HS8.out w8 nq os hw8
        have c8 := HJ8.out w8 hu8
        have Hc8 := Lib.hid (Hco.out w8 h8)
        have Hn8 := Lib.hid (fun w9 q h9 => HS9.out w8 w9 q h8 hu8 h9)
        clear hw8 h8 hu8 cJ
        go_wp2_with fail
        refine Hc8.out.mono ?_
        rintro e w9 ⟨rfl, q, hw9⟩
        have HX := Lib.hid (Hn8.out w9 q hw9)
        rw [Huq.out]
        clear hw9
        go_wp2_with fail
        go_ret2
        exact ⟨.slice (some ⟨g, 0, none⟩) (uniq xs).length vc, rfl, by rw [Hgx.out]; exact HX.out.1, HX.out.2⟩
theorem needs_any (l : List Obj) (p : Psh) (lv ov uv : Value) (S1 S2 S3 : Nat → Prop) (w : World) (hl : StoreV S1 w lv l) (ho : StoreV S2 w ov p.objects) (hu : MvsV S3 w uv p.updates) :
  Calls Tryz.prog 28 #[lv, .agg #[ov, uv, .bool p.force]] w fun e w' => RetIntsE w w' e (needsL l p) (needsE l p) := (needsF_any l p lv ov uv S1 S2 S3 w hl ho hu).mono fun _ _ h => h.e
end Go.Proofs.YtjdgpgfiomnjkaaGreatDoor
namespace Go.Proofs.YtjdgpgfiomnjkaaGreatDoor
open Go.RowKit
set_option linter.unusedVariables false
set_option linter.unusedSimpArgs false
set_option linter.unusedSectionVars false
variable [Ghost]
end Go.Proofs.YtjdgpgfiomnjkaaGreatDoor
namespace Go.Proofs.YtjdgpgfiomnjkaaGreatDoor
open Go.RowKit
set_option linter.unusedVariables false
set_option linter.unusedSimpArgs false
set_option linter.unusedSectionVars false
variable [Ghost]
theorem come_end {w w1 : World} {t tt tu tp : TypeId}
  (hb1 : Below ((w.alloc (.cells #[.slice none 0 0, .slice none 0 0, .bool false] tp)).alloc (.cells #[.int .i64 2, .int .i64 5] t)).heap.size ((w.alloc (.cells #[.slice none 0 0, .slice none 0 0, .bool false] tp)).alloc (.cells #[.int .i64 2, .int .i64 5] t)) w1) :
  ∃ w2, w2 = (w1.alloc (.cells #[.int .i64 6, .int .i64 3, .slice (some ⟨w.heap.size + 1, 0, none⟩) 2 2, .string tee] tt)).alloc (.cells #[.string ⟨#[109, 97, 105, 110]⟩, .int .i64 3, .int .i64 6] tu) ∧
  StoreV (fun b => w.heap.size < b) w2 (.slice (some ⟨w1.heap.size, 0, none⟩) 1 1) comeP.objects ∧ MvsV (fun b => w.heap.size < b) w2 (.slice (some ⟨w1.heap.size + 1, 0, none⟩) 1 1) comeP.updates ∧
  Below w.heap.size w w2 ∧ w2.heap[w.heap.size]? = some (.cells #[.slice none 0 0, .slice none 0 0, .bool false] tp (0, 0)) := by
 refine ⟨_, rfl, ?_, ?_, ?_, ?_⟩
 all_goals have hs := hb1.size
 all_goals simp only [World.size_alloc] at hs
 ·have i1 := (ints_new (w.alloc (.cells #[.slice none 0 0, .slice none 0 0, .bool false] tp)) [2, 5] t (w.heap.size + 1) (by simp) (by simp) (by intro x hx; simp only [List.mem_cons, List.not_mem_nil, or_false] at hx; rcases hx with rfl | rfl <;> exact small64 _ (by omega))).below hb1
  have h := store_new (S := fun b => w.heap.size < b ∧ b < w1.heap.size) w1 comeP.objects (fun _ => .slice (some ⟨w.heap.size + 1, 0, none⟩) 2 2) tt w1.heap.size rfl (by decide) (fun i hi => by
   match i, hi with
   | 0, _ => exact ⟨i1.weaken fun b hb => by omega, small64 _ (by decide), small64 _ (by decide), by decide⟩)
  exact (h.weaken fun b hb => by rcases hb with rfl | hb; omega; exact hb.1).below ((Below.refl _ _).alloc (Nat.le_refl _) _)
 ·have h := mvs_new (w1.alloc (.cells #[.int .i64 6, .int .i64 3, .slice (some ⟨w.heap.size + 1, 0, none⟩) 2 2, .string tee] tt)) comeP.updates tu (w1.heap.size + 1) (by simp) (by decide) (fun u hu => by
   simp only [comeP, List.mem_cons, List.not_mem_nil, or_false] at hu
   subst hu
   exact ⟨small64 _ (by decide), small64 _ (by decide), by decide⟩)
  exact h.weaken fun b hb => by omega
 ·have c1 : Below w.heap.size w w1 := by
   have a1 := (Below.refl w.heap.size w).alloc (Nat.le_refl _) (.cells #[.slice none 0 0, .slice none 0 0, .bool false] tp)
   have a2 := a1.alloc (by simp) (.cells #[.int .i64 2, .int .i64 5] t)
   exact below_next a2 hb1
  exact (c1.alloc c1.size _).alloc (by simp; omega) _
 ·have e1 : w1.heap[w.heap.size]? = some (.cells #[.slice none 0 0, .slice none 0 0, .bool false] tp (0, 0)) :=
   (hb1.block _ (by simp; omega)).trans ((((Below.refl (w.heap.size + 1) (w.alloc (.cells #[.slice none 0 0, .slice none 0 0, .bool false] tp)))).alloc (by simp) _).block _ (by omega) |>.trans (heap_alloc_new w _))
  exact (((Below.refl w1.heap.size w1).alloc (Nat.le_refl _) _).alloc (by simp) _).block _ (by omega) |>.trans e1
set_option maxRecDepth 100000 in
set_option maxHeartbeats 4000000 in
theorem come_any (w : World) : Calls Tryz.prog 53 #[] w fun e w' => RetPsh w w' e comeP := by
 go_enter Tryz.func53, Tryz.ntmps53
 go_wp2_with fail
 refine (obj_any _ _ _ _ _ _).mono ?_; rintro e w1 ⟨rfl, hb1⟩
 obtain ⟨w2, he, ho, hu, hb, hblk⟩ := come_end (tt := 46) (tu := 107) hb1
 have g0 := block_cell (j := 0) hblk rfl
 have g1 := block_cell (j := 1) hblk rfl
 have g2 := block_cell (j := 2) hblk rfl
 have f0 := block_free (j := 0) hblk
 have f1 := block_free (j := 1) hblk
 have f2 := block_free (j := 2) hblk
 have HE := Lib.hid (And.intro ho (And.intro hu hb))
 clear hb1 ho hu hb
 simp only [he] at g0 g1 g2 f0 f1 f2
 go_wp2_with fail
 rw [← he]
 change bodyPost _ _ _ _ _ (set3 w.heap.size (.slice (some ⟨w1.heap.size, 0, none⟩) 1 1) (.slice (some ⟨w1.heap.size + 1, 0, none⟩) 1 1) (.bool false) w2)
 have hb3 := set3_is (v0 := .slice (some ⟨w1.heap.size, 0, none⟩) 1 1) (v1 := .slice (some ⟨w1.heap.size + 1, 0, none⟩) 1 1) (v2 := .bool false) hblk
 have hu3 := set3_upd w.heap.size (.slice (some ⟨w1.heap.size, 0, none⟩) 1 1) (.slice (some ⟨w1.heap.size + 1, 0, none⟩) 1 1) (.bool false) w2
 generalize set3 w.heap.size (.slice (some ⟨w1.heap.size, 0, none⟩) 1 1) (.slice (some ⟨w1.heap.size + 1, 0, none⟩) 1 1) (.bool false) w2 = w3 at *
 have k0 := block_cell (j := 0) hb3 rfl
 have k1 := block_cell (j := 1) hb3 rfl
 have k2 := block_cell (j := 2) hb3 rfl
 refine bodyPost_ret (v := pshV comeP (.slice (some ⟨w1.heap.size, 0, none⟩) 1 1) (.slice (some ⟨w1.heap.size + 1, 0, none⟩) 1 1)) (by simp [results, Tryz.results53, go_sem]; simp [k0, k1, k2]; rfl) rfl ⟨_, _, rfl, ?_, ?_, ?_⟩
 ·exact (HE.out.1.upd' hu3 (fun b hb e => by omega)).weaken fun b hb => by omega
 ·exact (HE.out.2.1.upd hu3 (fun b hb e => by omega)).weaken fun b hb => by omega
 ·exact HE.out.2.2.trans (hu3.below (B := w.heap.size) HE.out.2.2.size (fun b hb => by omega))
theorem StoreV.shape3 {S : Nat → Prop} {w : World} {v : Value} {l : List Obj} (h : StoreV S w v l) : ∃ a n c, v = .slice a n c := let ⟨a, c, e⟩ := h.vshape; ⟨a, _, c, e⟩
theorem MvsV.shape3 {S : Nat → Prop} {w : World} {v : Value} {l : List Mv} (h : MvsV S w v l) : ∃ a n c, v = .slice a n c := let ⟨p, e⟩ := h.shape; ⟨p.1, _, p.2, e⟩
theorem begun_p1 : checkPsh comeP = 0 := by decide +kernel
theorem begun_p2 : tryE hostR comeP = 0 := by decide +kernel
theorem begun_p3 : (tryL hostR comeP).length = 6 := by decide +kernel
theorem begun_p4 : idOf (tryM hostR comeP) ⟨#[109, 97, 105, 110]⟩ = 6 := by decide +kernel
theorem begun_p5 : needsE (shelfL.take 3) comeP = 0 := by decide +kernel
theorem begun_p6 : needsL (shelfL.take 3) comeP = [5] := by
 unfold needsL
 rw [if_pos begun_p5, ← need_want (by decide +kernel) begun_p1]
 decide +kernel
def fPsh (p : Psh) : Fact := ⟨fun v x => ∃ ov uv, v = pshV p ov uv ∧ StoreV (fun _ => True) x ov p.objects ∧ MvsV (fun _ => True) x uv p.updates,
 fun _ _ _ ⟨ov, uv, e, h1, h2⟩ hb => ⟨ov, uv, e, h1.below hb, h2.below hb⟩⟩
set_option maxRecDepth 100000 in
set_option maxHeartbeats 4000000 in
theorem pushBegun_any (w : World) : Calls Tryz.prog 9 #[] w fun e w' => e = .returned (.bool true) ∧ Below w.heap.size w w' := by
 obtain ⟨R, hR, hR1, _⟩ := cls_plain w
 have hRb := hR.below
 have hRn := hR.next
 have hRa := hR.alloc
 go_enter Tryz.func9, Tryz.ntmps9
 go_wp2_with fail
 refine (host_any _).mono ?_
 rintro e w1 ⟨sv, rv, ov, uv, rfl, hr, hb1⟩
 have hR2 := hRn _ _ hR1 hb1
 have Hr := Lib.hid hr
 clear hr hb1 hR1
 go_wp2_with fail
 refine (come_any _).mono ?_
 rintro e w2 ⟨ov2, uv2, rfl, ho2, hu2, hb2⟩
 have hR3 := hRn _ _ hR2 hb2
 have hT := pushTry_any hostR comeP _ _ _ _ _ _ _ _ _ _ w2 (Hr.out.store.below hb2) (Hr.out.refs.below hb2) ho2 hu2 ⟨StoreV.shape3 Hr.out.objs, MvsV.shape3 Hr.out.upds⟩
 rw [if_pos begun_p1, if_pos begun_p1, if_pos begun_p1, begun_p2] at hT
 have HT := Lib.hid hT
 clear hT ho2 hu2 hb2 hR2 Hr
 go_wp2_with fail
 refine HT.out.mono ?_
 rintro e w3 ⟨v3, u3, rfl, hv3, hu3, hb3⟩
 obtain ⟨a3, c3, rfl⟩ := hv3.vshape
 obtain ⟨⟨p3, d3⟩, rfl⟩ := hu3.shape
 have hR4 := hRn _ _ hR3 hb3
 have HM := Lib.hid begun_p4
 have HU := Lib.hid hu3
 rw [begun_p3]
 generalize (tryM hostR comeP) = M at *
 clear hv3 hu3 hb3 hR3 HT
 go_wp2_with fail
 obtain ⟨C, hC, hC1, _⟩ := cls_plain w3
 have hCb := hC.below
 refine wp_flow (n := 46) (by kernel_rfl) (by kernel_rfl) rfl (facts [fStore shelfL, fStore (shelfL.take 3), fPsh comeP, fTup2 (fInts [5]) (Fact.is (.int .i64 0)), fTup2 (fInts [5]) (Fact.is (.int .i64 0)), fInts [5], Fact.is (.int .i64 0), fInts [5], Fact.is (.int .i64 0)]) hC hC1 [(0, some 14), (1, some 15), (2, some 16), (3, some 17), (4, some 13), (5, some 18), (6, some 19), (7, some 4), (8, some 5)] (by kernel_rfl) ?_ ?_
 ·-- 0 shelf
  refine Steps.cons [] (by kernel_rfl) (fun vals x hx hh K hK => ?_) ?_
  ·rw [if_pos (by rfl)]
   simp only [puts]
   go_wp2_with fail
   refine (shelf_any _).mono ?_
   rintro e x' ⟨v, rfl, hv, hb⟩
   obtain ⟨a, c, rfl⟩ := hv.vshape
   have Hv := Lib.hid (hv.weaken (S' := fun _ => True) (fun _ _ => trivial))
   clear hv
   go_wp2_with fail
   exact hK.out _ _ rfl hb Hv.out
  -- 1 slice
  refine Steps.cons [(0, some 14)] (by kernel_rfl) (fun vals x hx hh K hK => ?_) ?_
  ·obtain ⟨h0, _⟩ := hh
   replace h0 : StoreV (fun _ => True) x (vals 0) shelfL := h0
   obtain ⟨a, c, hc, e0⟩ : ∃ a c, 5 ≤ c ∧ vals 0 = .slice a 5 c := let ⟨_, ⟨a, cap, hv, h1, _⟩, _⟩ := h0; ⟨a, cap, h1, hv⟩
   rw [e0] at h0
   have HT := Lib.hid (h0.take (i := 3) (by decide))
   have hc2 : (3 : Int) ≤ (c : Int) := by omega
   have hc3 : 3 ≤ c := by omega
   clear h0
   rw [if_pos (by rfl)]
   simp only [puts, Act.put, List.setIfInBounds_toArray, List.set_cons_zero, List.set_cons_succ, e0]
   clear e0
   go_wp2_with fail
   exact hK.out _ _ rfl (Below.refl _ _) HT.out
  -- 2 come
  refine Steps.cons [] (by kernel_rfl) (fun vals x hx hh K hK => ?_) ?_
  ·rw [if_pos (by rfl)]
   simp only [puts]
   go_wp2_with fail
   refine (come_any _).mono ?_
   rintro e x' ⟨ov, uv, rfl, ho, hu, hb⟩
   have Hv := Lib.hid (And.intro (ho.weaken (S' := fun _ => True) (fun _ _ => trivial)) (hu.weaken (S' := fun _ => True) (fun _ _ => trivial)))
   clear ho hu
   go_wp2_with fail
   exact hK.out _ _ rfl hb ⟨ov, uv, rfl, Hv.out.1, Hv.out.2⟩
  -- 3 Needs
  refine Steps.cons [(1, some 15), (2, some 16)] (by kernel_rfl) (fun vals x hx hh K hK => ?_) ?_
  ·obtain ⟨h1, h2, _⟩ := hh
   replace h1 : StoreV (fun _ => True) x (vals 1) (shelfL.take 3) := h1
   obtain ⟨ov, uv, e2, ho, hu⟩ := h2
   replace e2 : vals 2 = _ := e2
   have HN := needs_any (shelfL.take 3) comeP _ _ _ _ _ _ x h1 ho hu
   rw [begun_p5, begun_p6] at HN
   generalize e1 : vals 1 = v1 at *
   have HAd := Lib.hid HN
   clear h1 ho hu HN
   rw [if_pos (by rfl)]
   simp only [puts, Act.put, List.setIfInBounds_toArray, List.set_cons_zero, List.set_cons_succ, e1, e2]
   clear e1 e2
   go_wp2_with fail
   refine HAd.out.mono ?_
   rintro e x' ⟨v, rfl, hv, hb⟩
   have HT := Lib.hid hv
   clear hv
   go_wp2_with fail
   exact hK.out _ _ rfl hb ⟨_, _, rfl, HT.out, rfl⟩
  -- 4 move
  refine Steps.cons [(3, some 17)] (by kernel_rfl) (fun vals x hx hh K hK => ?_) ?_
  ·obtain ⟨h0, _⟩ := hh
   obtain ⟨a, b, e0, h1, h2⟩ := h0
   replace e0 : vals 3 = _ := e0
   have HT := Lib.hid (And.intro h1 h2)
   clear h1 h2
   rw [if_pos (by rfl)]
   simp only [puts, Act.put, List.setIfInBounds_toArray, List.set_cons_zero, List.set_cons_succ, e0]
   clear e0
   go_wp2_with fail
   exact hK.out _ _ rfl (Below.refl _ _) ⟨a, b, rfl, HT.out.1, HT.out.2⟩
  -- 5 extract
  refine Steps.cons [(4, some 13)] (by kernel_rfl) (fun vals x hx hh K hK => ?_) ?_
  ·obtain ⟨h0, _⟩ := hh
   obtain ⟨a, b, e0, h1, h2⟩ := h0
   replace e0 : vals 4 = _ := e0
   have HT := Lib.hid (And.intro h1 h2)
   clear h1 h2
   rw [if_pos (by rfl)]
   simp only [puts, Act.put, List.setIfInBounds_toArray, List.set_cons_zero, List.set_cons_succ, e0]
   clear e0
   go_wp2_with fail
   exact hK.out _ _ rfl (Below.refl _ _) HT.out.1
  -- 6 extract
  refine Steps.cons [(4, some 13)] (by kernel_rfl) (fun vals x hx hh K hK => ?_) ?_
  ·obtain ⟨h0, _⟩ := hh
   obtain ⟨a, b, e0, h1, h2⟩ := h0
   replace e0 : vals 4 = _ := e0
   have HT := Lib.hid (And.intro h1 h2)
   clear h1 h2
   rw [if_pos (by rfl)]
   simp only [puts, Act.put, List.setIfInBounds_toArray, List.set_cons_zero, List.set_cons_succ, e0]
   clear e0
   go_wp2_with fail
   exact hK.out _ _ rfl (Below.refl _ _) HT.out.2
  -- 7 assign
  refine Steps.cons [(5, some 18)] (by kernel_rfl) (fun vals x hx hh K hK => ?_) ?_
  ·obtain ⟨h0, _⟩ := hh
   replace h0 : IntsV (fun _ => True) x (vals 5) [5] := h0
   generalize e0 : vals 5 = v0 at *
   have HT := Lib.hid h0
   clear h0
   rw [if_pos (by rfl)]
   simp only [puts, Act.put, List.setIfInBounds_toArray, List.set_cons_zero, List.set_cons_succ, e0]
   clear e0
   go_wp2_with fail
   exact hK.out _ _ rfl (Below.refl _ _) HT.out
  -- 8 assign
  refine Steps.cons [(6, some 19)] (by kernel_rfl) (fun vals x hx hh K hK => ?_) ?_
  ·obtain ⟨h0, _⟩ := hh
   replace h0 : vals 6 = .int .i64 0 := h0
   rw [if_pos (by rfl)]
   simp only [puts, Act.put, List.setIfInBounds_toArray, List.set_cons_zero, List.set_cons_succ, h0]
   clear h0
   go_wp2_with fail
   exact hK.out _ _ rfl (Below.refl _ _) rfl
  exact Steps.nil
 ·intro vals x hxC hh
  have hb4 := hCb _ hxC
  have hR5 := hRn _ _ hR4 hb4
  have HU4 := Lib.hid (HU.out.below hb4)
  clear hb4 hxC HU hR4
  obtain ⟨h0, h1, h2, h3, h4, h5, h6, h7, h8, _⟩ := hh
  replace h7 : IntsV (fun _ => True) x (vals 7) [5] := h7
  replace h8 : vals 8 = .int .i64 0 := h8
  obtain ⟨⟨a, c⟩, e7⟩ := h7.shape
  simp only [puts, Act.put, List.setIfInBounds_toArray, List.set_cons_zero, List.set_cons_succ, h8, e7]
  rw [e7] at h7
  have HL := Lib.hid h7
  clear h0 h1 h2 h3 h4 h5 h6 h7 h8 e7
  go_wp2_with fail
  refine (come_any _).mono ?_
  rintro e x2 ⟨ov2, uv2, rfl, ho2, hu2, hb2⟩
  have hR6 := hRn _ _ hR5 hb2
  have HL2 := Lib.hid (HL.out.below hb2)
  have HU5 := Lib.hid (HU4.out.below hb2)
  have hP := pushCheck_any comeP _ _ _ _ x2 ho2 hu2
  rw [begun_p1] at hP
  have HP := Lib.hid hP
  clear hP ho2 hu2 hb2 hR5 HL HU4
  go_wp2_with fail
  refine HP.out.mono ?_
  rintro e x3 ⟨rfl, hb3⟩
  have hR7 := hRn _ _ hR6 hb3
  have HL3 := Lib.hid (HL2.out.below hb3)
  have hI := idOf_any M _ _ ⟨#[109, 97, 105, 110]⟩ x3 (HU5.out.below hb3)
  rw [HM.out] at hI
  have HI := Lib.hid hI
  clear hI hb3 hR6 HL2 HU5 HP
  go_wp2_with fail
  refine HI.out.mono ?_
  rintro e x4 ⟨rfl, rfl⟩
  clear HI
  go_wp2_with fail
  have hI := ints_lit (w := x3) (xs := [5]) (t := 3) (by decide) (by decide)
  have hb5 := (Below.refl x3.heap.size x3).alloc (Nat.le_refl _) (.cells #[.int .i64 5] 3)
  have hR8 := hRn _ _ hR7 hb5
  have HS := Lib.hid (sameInts_any [5] [5] _ _ _ _ _ (HL3.out.below hb5) hI)
  clear hI hb5 HL3 hR7
  refine HS.out.mono ?_
  rintro e x6 ⟨rfl, hb6⟩
  have hR9 := hRn _ _ hR8 hb6
  rw [show sameInts [5] [5] = true from rfl]
  clear hb6 hR8 HS
  go_wp2_with fail
  go_ret
  exact ⟨rfl, hRb _ hR9⟩
end Go.Proofs.YtjdgpgfiomnjkaaGreatDoor
