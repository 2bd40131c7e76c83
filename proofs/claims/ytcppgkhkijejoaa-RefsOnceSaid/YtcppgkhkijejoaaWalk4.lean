/- Walks: ids that are there; what is behind. -/
import Derived.Test.YtcppgkhkijejoaaWalk3
import Derived.Test.YtcppgkhkijejoaaGath
import Derived.Deep.DeepCutAuto
namespace Go.Proofs.Ytcppgkhkijejoaa
open Go.RowKit
set_option linter.unusedVariables false
set_option linter.unusedSimpArgs false

/-- the first number for which p holds, or -1 -/
def idxI (p : Int → Bool) (l : List Int) : Int := match l.findIdx? p with | some i => (i : Int) | none => -1
theorem idxI_hit {l : List Int} {p : Int → Bool} {k : Nat} (h : ∀ j, j < k → p (nth l j) = false) (hk : k < l.length) (he : p (nth l k) = true) : idxI p l = k := by
  unfold idxI
  have : l.findIdx? p = some k := by
    rw [List.findIdx?_eq_some_iff_getElem]
    refine ⟨hk, by rw [← nth_lt hk]; exact he, fun j hj => ?_⟩
    have := h j hj
    rw [nth_lt (by omega)] at this
    simp [this]
  rw [this]
theorem idxI_none {l : List Int} {p : Int → Bool} (h : ∀ j, j < l.length → p (nth l j) = false) : idxI p l = -1 := by
  unfold idxI
  have : l.findIdx? p = none := by
    rw [List.findIdx?_eq_none_iff]
    intro x hx
    obtain ⟨i, hi, rfl⟩ := List.getElem_of_mem hx
    have := h i hi
    rwa [nth_lt hi] at this
  rw [this]
theorem idxI_cases (p : Int → Bool) (l : List Int) : (idxI p l = -1 ∧ ∀ j, j < l.length → p (nth l j) = false) ∨ ∃ k, k < l.length ∧ idxI p l = (k : Int) ∧ p (nth l k) = true := by
  unfold idxI
  cases h : l.findIdx? p with
  | none =>
    rw [List.findIdx?_eq_none_iff] at h
    exact .inl ⟨rfl, fun j hj => by rw [nth_lt hj]; exact h _ (List.getElem_mem hj)⟩
  | some k =>
    rw [List.findIdx?_eq_some_iff_getElem] at h
    obtain ⟨hk, he, _⟩ := h
    exact .inr ⟨k, hk, rfl, by rw [nth_lt hk]; exact he⟩

/-- a function value that asks p of a number, in whatever world comes behind w -/
def AsksI (g : Nat) (c : Value) (p : Int → Bool) (w : World) : Prop :=
  ∀ (x : World) (z : Int), Below w.heap.size w x → Calls Try.prog g #[.int .i64 z, c] x fun e w' => e = .returned (.bool (p z)) ∧ Below x.heap.size x w'

set_option maxHeartbeats 1000000 in
theorem indexFuncI_any (l : List Int) (v c : Value) (S : Nat → Prop) (g : Nat) (p : Int → Bool) (w : World) (h : IntsV S w v l) (eg : ∀ args w, (callFunc g args).run Try.prog w = .ok (.enter g args) w) (hp : AsksI g c p w) :
    Calls Try.prog 98 #[v, .func (.func g) #[] #[c]] w fun e w' => e = .returned (.int .i64 (idxI p l)) ∧ Below w.heap.size w w' := by
  obtain ⟨a, n, cap, HN, rfl, h1, h2, h3, h4⟩ := h.open
  clear h
  obtain ⟨R, hR, hR1, _⟩ := cls_plain w
  have hRb := hR.below
  have hRn := hR.next
  have Hp := Lib.hid hp; clear hp
  have Hh := Lib.hid (fun k h1 hk he => idxI_hit (l := l) (p := p) (k := k) h1 (by rw [← HN.out]; exact hk) he)
  have Hn := Lib.hid (fun h1 => idxI_none (l := l) (p := p) (by rw [← HN.out]; exact h1))
  go_enter Try.func98, Try.ntmps98
  go_wp2_with fail
  go_loopw [8] (fun i wr => ∃ k : Nat, k ≤ n ∧ i = .int .i64 k ∧ Hid (∀ j, j < k → p (nth l j) = false) ∧ In R wr) (fun i _ => n - (intOf i).toNat)
  case atStart => exact ⟨0, by omega, rfl, fun j hj => absurd hj (by omega), hR1⟩
  case round =>
    obtain ⟨k, hk, rfl, Hs, hRw⟩ := hrel
    clear hR1
    by_cases hlt : k < n
    · obtain ⟨b, off, rfl, hb, k0⟩ := h4 (by omega)
      have x0 := k0 k wr hlt (hRb _ hRw)
      clear h4 k0
      cases hq : p (nth l k)
      · have He := Lib.hid hq
        go_wp2_with fail
        refine (Hp.out _ (nth l k) (hRb _ hRw)).mono ?_
        rintro e w' ⟨rfl, hb2⟩
        rw [hq]
        have hR2 := hRn _ _ hRw hb2
        go_wp2_with fail
        go_roundw
        case rel => exact ⟨k + 1, by omega, by go_num, all_next Hs.out He.out, hR2⟩
        case measure => simp [intOf]; omega
      · have HK := Lib.hid (Hh.out k Hs.out hlt hq)
        go_wp2_with fail
        refine (Hp.out _ (nth l k) (hRb _ hRw)).mono ?_
        rintro e w' ⟨rfl, hb2⟩
        rw [hq]
        have hR2 := hRn _ _ hRw hb2
        go_wp2_with fail
        go_ret
        exact ⟨ret_int HK.out.symm, hRb _ hR2⟩
    · obtain rfl : k = n := by omega
      have HK := Lib.hid (Hn.out Hs.out)
      go_wp2_with fail
      go_ret
      exact ⟨ret_int HK.out.symm, hRb _ hRw⟩

set_option maxHeartbeats 400000 in
theorem containsFuncI_any (l : List Int) (v c : Value) (S : Nat → Prop) (g : Nat) (p : Int → Bool) (w : World) (h : IntsV S w v l) (eg : ∀ args w, (callFunc g args).run Try.prog w = .ok (.enter g args) w) (hp : AsksI g c p w) :
    Calls Try.prog 86 #[v, .func (.func g) #[] #[c]] w fun e w' => e = .returned (.bool (l.any p)) ∧ Below w.heap.size w w' := by
  obtain ⟨q, rfl⟩ := h.shape
  have Hi := Lib.hid (indexFuncI_any l _ c S g p w h eg hp)
  rcases idxI_cases p l with ⟨h0, h1⟩ | ⟨k, hk, h0, h1⟩
  · have Ha := Lib.hid (show l.any p = false by
      rw [List.any_eq_false]
      intro x hx
      obtain ⟨i, hi, rfl⟩ := List.getElem_of_mem hx
      have := h1 i hi
      rw [nth_lt hi] at this
      simp [this])
    clear h1 hp
    go_enter Try.func86, Try.ntmps86
    go_wp2_with fail
    refine Hi.out.mono ?_
    rintro e w' ⟨rfl, hb⟩
    rw [h0]
    go_wp2_with fail
    go_ret
    exact ⟨by rw [Ha.out]; rfl, hb⟩
  · have Ha := Lib.hid (show l.any p = true by
      rw [List.any_eq_true]
      exact ⟨nth l k, by rw [nth_lt hk]; exact List.getElem_mem hk, h1⟩)
    have hd : decide ((0 : Int) ≤ (k : Int)) = true := by simp
    clear h1 hp
    go_enter Try.func86, Try.ntmps86
    go_wp2_with fail
    refine Hi.out.mono ?_
    rintro e w' ⟨rfl, hb⟩
    rw [h0]
    go_wp2_with fail
    go_ret
    exact ⟨by rw [Ha.out]; first | rfl | simp, hb⟩

set_option maxHeartbeats 400000 in
theorem there1_any (l : List Obj) (id : Int) (lv : Value) (S : Nat → Prop) (a : Addr) (w : World) (hr : Rising l) (h : StoreV S w lv l) (hc : w.cell? a = some lv) :
    Calls Try.prog 87 #[.int .i64 id, .pointer (some a)] w fun e w' => e = .returned (.bool (kindOf l id == 0)) ∧ Below w.heap.size w w' := by
  have Hk := Lib.hid (kind_any l lv S id w h hr)
  obtain ⟨sa, sc, sn, rfl⟩ : ∃ a cap n, lv = .slice a n cap := let ⟨_, ⟨a, cap, hv, _⟩, _⟩ := h; ⟨a, cap, _, hv⟩
  generalize kindOf l id = kd at *
  have hq : (kd == 0) = decide (kd = 0) := rfl
  go_enter Try.func87, Try.ntmps87
  go_wp2_with fail
  refine Hk.out.mono ?_
  rintro e w' ⟨rfl, hb⟩
  go_wp2_with fail
  go_ret
  exact ⟨rfl, hb⟩

set_option maxRecDepth 100000 in
set_option maxHeartbeats 1000000 in
theorem there_any (l : List Obj) (ids : List Int) (lv tv : Value) (S S' : Nat → Prop) (w : World) (h : StoreV S w lv l) (ht : IntsV S' w tv ids) :
    Calls Try.prog 64 #[lv, tv] w fun e w' => e = .returned (.int .i64 (thereErr l ids)) ∧ Below w.heap.size w w' := by
  obtain ⟨sa, sc, sn, rfl⟩ : ∃ a cap n, lv = .slice a n cap := let ⟨_, ⟨a, cap, hv, _⟩, _⟩ := h; ⟨a, cap, _, hv⟩
  obtain ⟨⟨tp, tc⟩, rfl⟩ := ht.shape
  obtain ⟨R, hR, hR1, hc⟩ := cls_box w #[.slice sa sn sc] 37
  have hc0 := hc 0 _ rfl
  clear hc
  have hRb := hR.below
  have hRn := hR.next
  have Hd := Lib.hid (show thereErr l ids = if checkStore l ≠ 0 then checkStore l else if ids.any (fun x => kindOf l x == 0) then 5 else 0 from rfl)
  have hmf : ∀ (fn : Fn) (first cap : Array Value) (w : World), (Instr.makeFunc fn first cap).run Try.prog w = .ok (.func fn first cap) w := fun _ _ _ _ => rfl
  by_cases hz : checkStore l = 0
  · have hz' : (checkStore l != 0) = false := by simpa using hz
    have Hr := Lib.hid (checkStore_rising hz)
    have Hz := Lib.hid hz; clear hz
    go_enter Try.func64, Try.ntmps64
    go_wp2_with fail
    refine (storeCheck_any l _ S _ (h.below (hRb _ hR1))).mono ?_
    rintro e w2 ⟨rfl, hb2⟩
    have hR2 := hRn _ _ hR1 hb2
    have Hap := Lib.hid (show AsksI 87 (.pointer (some ⟨w.heap.size, 0, none⟩)) (fun x => kindOf l x == 0) w2 from fun x z hx => there1_any l z _ S _ x Hr.out (h.below (hRb _ (hRn _ _ hR2 hx))) (hc0 x (hRn _ _ hR2 hx)))
    go_wp2_with fail
    refine (containsFuncI_any ids _ _ S' _ _ _ (ht.below (hRb _ hR2)) (fun _ _ => rfl) Hap.out).mono ?_
    rintro e w3 ⟨rfl, hb3⟩
    have hR3 := hRn _ _ hR2 hb3
    cases ha : ids.any (fun x => kindOf l x == 0)
    · go_wp2_with fail
      go_ret
      exact ⟨ret_int (by rw [Hd.out, if_neg (by simp [Hz.out]), ha]; rfl), hRb _ hR3⟩
    · go_wp2_with fail
      go_ret
      exact ⟨ret_int (by rw [Hd.out, if_neg (by simp [Hz.out]), ha]; rfl), hRb _ hR3⟩
  · have hz' : (checkStore l != 0) = true := by simpa using hz
    have Hz := Lib.hid hz; clear hz
    go_enter Try.func64, Try.ntmps64
    go_wp2_with fail
    refine (storeCheck_any l _ S _ (h.below (hRb _ hR1))).mono ?_
    rintro e w2 ⟨rfl, hb2⟩
    go_wp2_with fail
    go_ret
    exact ⟨ret_int (by rw [Hd.out, if_pos Hz.out]), hRb _ (hRn _ _ hR1 hb2)⟩
end Go.Proofs.Ytcppgkhkijejoaa
