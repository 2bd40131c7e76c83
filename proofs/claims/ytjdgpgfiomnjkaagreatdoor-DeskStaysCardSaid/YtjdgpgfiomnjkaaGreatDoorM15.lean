
/- CluD: walks of CheckCluster, SameCluster, clusterIs. -/
import Derived.Test.YtjdgpgfiomnjkaaGreatDoorM14
import Derived.Deep.RegionHeld3
import Derived.Test.YtjdgpgfiomnjkaaGreatDoorM5
import Derived.Deep.AppendLies
import Derived.Test.YtjdgpgfiomnjkaaGreatDoorM13
import Derived.Test.YtjdgpgfiomnjkaaGreatDoorM12
namespace Go.Proofs.YtjdgpgfiomnjkaaGreatDoor
open Go.RowKit
set_option linter.unusedVariables false
set_option linter.unusedSimpArgs false
def sameClu (a b : List Rep) : Bool := decide (a.length = b.length) && (List.range a.length).all fun k => sameRep (rep a k) (rep b k)
theorem sameClu_len {a b : List Rep} (h : a.length ≠ b.length) : sameClu a b = false := by unfold sameClu; simp [h]
theorem sameClu_at {a b : List Rep} {k : Nat} (hk : k < a.length) (h : sameRep (rep a k) (rep b k) = false) : sameClu a b = false := by
 unfold sameClu
 have : ((List.range a.length).all fun k => sameRep (rep a k) (rep b k)) = false := by
  rw [List.all_eq_false]; exact ⟨k, List.mem_range.2 hk, by simp [h]⟩
 rw [this, Bool.and_false]
theorem sameClu_all {a b : List Rep} (hl : a.length = b.length) (h : ∀ k, k < a.length → sameRep (rep a k) (rep b k) = true) : sameClu a b = true := by
 unfold sameClu
 rw [decide_eq_true hl, Bool.true_and, List.all_eq_true]
 exact fun k hk => h k (List.mem_range.1 hk)
theorem sameClu_iff (a b : List Rep) : sameClu a b = true ↔ a = b := by
 constructor
 ·intro h
  unfold sameClu at h
  rw [Bool.and_eq_true, decide_eq_true_eq, List.all_eq_true] at h
  refine List.ext_getElem h.1 fun i h1 h2 => ?_
  have := (sameRep_iff _ _).1 (h.2 i (List.mem_range.2 h1))
  rw [rep_lt h1, rep_lt h2] at this; exact this
 ·rintro rfl; exact sameClu_all rfl fun k _ => (sameRep_iff _ _).2 rfl
set_option maxRecDepth 100000 in
set_option maxHeartbeats 4000000 in
theorem sameCluster_any (l m : List Rep) (v u : Value) (S S' : Nat → Prop) (w : World) (h : RepsV S w v l) (hm : RepsV S' w u m) :
  Calls Tryz.prog 51 #[.agg #[v], .agg #[u]] w fun e w' => e = .returned (.bool (sameClu l m)) ∧ Below w.heap.size w w' := by
 obtain ⟨a, n, cap, fr, HN, rfl, h1, h2, h3, h4, h5⟩ := h.open
 obtain ⟨a', n', cap', fr', HN', rfl, h1', h2', h3', h4', h5'⟩ := hm.open
 clear h hm
 obtain ⟨R, hR, hR1, HB0⟩ := cls_allocs w [.cells #[.slice a n cap] 66, .cells #[.slice a' n' cap'] 66]
 simp only [List.foldl] at hR1
 have hRb := hR.below
 have hRn := hR.next
 have hCg := cls_grown hR
 have c0 := fun x (hx : In R x) => block_cell (j := 0) (HB0 x hx 0 _ rfl) rfl
 have c1 := fun x (hx : In R x) => block_cell (j := 0) (HB0 x hx 1 _ rfl) rfl
 simp only [Nat.add_zero] at c0
 clear HB0
 by_cases hl : n = n'
 case neg =>
  have HE := Lib.hid (sameClu_len (a := l) (b := m) (by rw [← HN.out, ← HN'.out]; exact hl))
  have cc := c0 _ hR1
  have cd := c1 _ hR1
  have hq : ((n : Int) != (n' : Int)) = true := by simpa using (show (n : Int) ≠ (n' : Int) by omega)
  go_enter Tryz.func51, Tryz.ntmps51
  go_wp2_with fail
  go_ret
  exact ⟨by rw [HE.out]; rfl, hRb _ hR1⟩
 case pos =>
  subst hl
  have Hall := Lib.hid (fun h => sameClu_all (a := l) (b := m) (by rw [← HN.out, ← HN'.out]) h)
  have Hat := Lib.hid (fun k (hk : k < n) h => sameClu_at (a := l) (b := m) (k := k) (by rw [← HN.out]; exact hk) h)
  have cc := c0 _ hR1
  have cd := c1 _ hR1
  go_enter Tryz.func51, Tryz.ntmps51
  go_wp2_with fail
  clear cc cd
  go_loopw [5] (fun i wr => ∃ k : Nat, k ≤ n ∧ i = .int .i64 k ∧ Hid (∀ j, j < k → sameRep (rep l j) (rep m j) = true) ∧ In R wr) (fun i _ => n - (intOf i).toNat)
  case atStart => exact ⟨0, by omega, rfl, fun j hj => absurd hj (by omega), hR1⟩
  case round =>
   obtain ⟨k, hk, rfl, Hs, hRw⟩ := hrel
   clear hR1
   have cc := c0 _ hRw
   by_cases hlt : k < n
   ·obtain ⟨b, off, rfl, hb, k0, k1, k2, k3, k4, k5, k6⟩ := h4 (by omega)
    obtain ⟨b', off', rfl, hb', k0', k1', k2', k3', k4', k5', k6'⟩ := h4' (by omega)
    have x0 : ∀ x, In R x → x.cell? ⟨b, off + k * 7, none⟩ = some (.slice (fr k).sa (rep l k).store.length (fr k).sc) := fun x hx => k0 k x hlt (hRb x hx)
    have x1 : ∀ x, In R x → x.cell? ⟨b, off + k * 7 + 1, none⟩ = some (.slice (fr k).ra (rep l k).refs.length (fr k).rc) := fun x hx => k1 k x hlt (hRb x hx)
    have x2 : ∀ x, In R x → x.cell? ⟨b, off + k * 7 + 2, none⟩ = some (.int .i64 (rep l k).gen) := fun x hx => k2 k x hlt (hRb x hx)
    have x3 : ∀ x, In R x → x.cell? ⟨b, off + k * 7 + 3, none⟩ = some (.int .i64 (rep l k).phase) := fun x hx => k3 k x hlt (hRb x hx)
    have x4 : ∀ x, In R x → x.cell? ⟨b, off + k * 7 + 4, none⟩ = some (.slice (fr k).oa (rep l k).pend.objects.length (fr k).oc) := fun x hx => k4 k x hlt (hRb x hx)
    have x5 : ∀ x, In R x → x.cell? ⟨b, off + k * 7 + 5, none⟩ = some (.slice (fr k).ua (rep l k).pend.updates.length (fr k).uc) := fun x hx => k5 k x hlt (hRb x hx)
    have x6 : ∀ x, In R x → x.cell? ⟨b, off + k * 7 + 6, none⟩ = some (.bool (rep l k).pend.force) := fun x hx => k6 k x hlt (hRb x hx)
    have u0 : ∀ x, In R x → x.cell? ⟨b', off' + k * 7, none⟩ = some (Value.slice (fr' k).sa (rep m k).store.length (fr' k).sc) := fun x hx => k0' k x hlt (hRb x hx)
    have u1 : ∀ x, In R x → x.cell? ⟨b', off' + k * 7 + 1, none⟩ = some (Value.slice (fr' k).ra (rep m k).refs.length (fr' k).rc) := fun x hx => k1' k x hlt (hRb x hx)
    have u2 : ∀ x, In R x → x.cell? ⟨b', off' + k * 7 + 2, none⟩ = some (Value.int .i64 (rep m k).gen) := fun x hx => k2' k x hlt (hRb x hx)
    have u3 : ∀ x, In R x → x.cell? ⟨b', off' + k * 7 + 3, none⟩ = some (Value.int .i64 (rep m k).phase) := fun x hx => k3' k x hlt (hRb x hx)
    have u4 : ∀ x, In R x → x.cell? ⟨b', off' + k * 7 + 4, none⟩ = some (Value.slice (fr' k).oa (rep m k).pend.objects.length (fr' k).oc) := fun x hx => k4' k x hlt (hRb x hx)
    have u5 : ∀ x, In R x → x.cell? ⟨b', off' + k * 7 + 5, none⟩ = some (Value.slice (fr' k).ua (rep m k).pend.updates.length (fr' k).uc) := fun x hx => k5' k x hlt (hRb x hx)
    have u6 : ∀ x, In R x → x.cell? ⟨b', off' + k * 7 + 6, none⟩ = some (Value.bool (rep m k).pend.force) := fun x hx => k6' k x hlt (hRb x hx)
    have HS := Lib.hid (fun x (hx : In R x) => sameReplica_any (rep l k) (rep m k) _ _ _ _ _ _ _ _ _ _ x ((h5 k hlt).below (hRb _ hx)) ((h5' k hlt).below (hRb _ hx)))
    simp only [repV] at HS
    clear h4 h5 h4' h5' k0 k1 k2 k3 k4 k5 k6 k0' k1' k2' k3' k4' k5' k6'
    have hi1 : (0 : Int) ≤ (k : Int) := by omega
    have hi2 : (k : Int) < (n : Int) := by omega
    cases he : sameRep (rep l k) (rep m k)
    ·rw [he] at HS
     have HE := Lib.hid (Hat.out k hlt he)
     go_wp2_with fail
     refine wp_region_quiet_below (by kernel_rfl) (by kernel_rfl) ?_
     repeat (first | go_big_quiet_skip | quiet_step (exact Calls.regrown_of (HS.out _ (hCg _ _ _ hRw))))
     refine wpQuiet_nil ?_
     intro _ hw'
     obtain ⟨⟨dq, osq⟩, hw''⟩ := hw'
     subst hw''
     have hR3 := hCg _ dq osq hRw
     generalize Go.Sort.grow (redrawn _ dq) osq = w3 at *
     go_wp2_with fail
     go_ret
     exact ⟨by rw [HE.out]; rfl, hRb _ hR3⟩
    ·rw [he] at HS
     have He := Lib.hid he
     go_wp2_with fail
     refine wp_region_quiet_below (by kernel_rfl) (by kernel_rfl) ?_
     repeat (first | go_big_quiet_skip | quiet_step (exact Calls.regrown_of (HS.out _ (hCg _ _ _ hRw))))
     refine wpQuiet_nil ?_
     intro _ hw'
     obtain ⟨⟨dq, osq⟩, hw''⟩ := hw'
     subst hw''
     have hR3 := hCg _ dq osq hRw
     generalize Go.Sort.grow (redrawn _ dq) osq = w3 at *
     go_wp2_with fail
     go_roundw
     case rel => exact ⟨k + 1, by omega, by go_num, all_next Hs.out He.out, hR3⟩
     case measure => simp [intOf]; omega
   ·obtain rfl : k = n := by omega
    have HE := Lib.hid (Hall.out (fun j hj => Hs.out j (by have := HN.out; omega)))
    go_wp2_with fail
    go_ret
    exact ⟨by rw [HE.out]; rfl, hRb _ hRw⟩
end Go.Proofs.YtjdgpgfiomnjkaaGreatDoor
namespace Go.Proofs.YtjdgpgfiomnjkaaGreatDoor
open Go.RowKit
set_option linter.unusedVariables false
set_option linter.unusedSimpArgs false
theorem flat_put {cs : Nat → List Value} {ys : List Value} {sz n i : Nat} (h : ∀ j, j < n → (cs j).length = sz) (hi : i < n) :
  (flat cs n).take (i * sz) ++ ys ++ (flat cs n).drop (i * sz + sz) = flat (fun j => if j = i then ys else cs j) n := by
 obtain ⟨k, rfl⟩ : ∃ k, n = i + (1 + k) := ⟨n - i - 1, by omega⟩
 have hl : (flat cs i).length = i * sz := flat_length fun j hj => h j (by omega)
 have hl2 : (flat cs i ++ cs i).length = i * sz + sz := by rw [List.length_append, hl, h i (by omega)]
 have e1 : flat cs (i + (1 + k)) = flat cs i ++ (cs i ++ flat (fun j => cs (i + (1 + j))) k) := by rw [flat_add, flat_one]; rfl
 rw [e1, show (flat cs i ++ (cs i ++ flat (fun j => cs (i + (1 + j))) k)).take (i * sz) = flat cs i by rw [← hl, List.take_left]]
 rw [← List.append_assoc (flat cs i), ← hl2, List.drop_left]
 rw [flat_add, flat_one]
 have e2 : flat (fun j => if j = i then ys else cs j) i = flat cs i := flat_congr fun j hj => by rw [if_neg (by omega)]
 have e3 : flat (fun j => (fun j => if i + j = i then ys else cs (i + j)) (1 + j)) k = flat (fun j => cs (i + (1 + j))) k := flat_congr fun j hj => by
  show (if i + (1 + j) = i then ys else cs (i + (1 + j))) = cs (i + (1 + j))
  rw [if_neg (by omega)]
 rw [e2, e3]
 simp
theorem take_put {α : Type} {A ys : List α} {a m n : Nat} (hy : ys.length = m) (h : a + m ≤ n) (hn : n ≤ A.length) : (A.take a ++ ys ++ A.drop (a + m)).take n = (A.take n).take a ++ ys ++ (A.take n).drop (a + m) := by
 obtain ⟨k, rfl⟩ : ∃ k, n = a + m + k := ⟨n - a - m, by omega⟩
 have h1 : (A.take a ++ ys).length = a + m := by rw [List.length_append, List.length_take, hy]; omega
 have e1 : (A.take a ++ ys ++ A.drop (a + m)).take (a + m + k) = A.take a ++ ys ++ (A.drop (a + m)).take k := by
  rw [← h1, List.take_length_add_append]
 rw [e1, List.take_take, Nat.min_eq_left (by omega), List.drop_take, show a + m + k - (a + m) = k by omega]
end Go.Proofs.YtjdgpgfiomnjkaaGreatDoor
namespace Go.Proofs.YtjdgpgfiomnjkaaGreatDoor
open Go.RowKit
set_option linter.unusedVariables false
set_option linter.unusedSimpArgs false
theorem Tryz.infoRep : (Tryz.prog.info? 28).map (fun i => (i.zero, i.size, i.bytes)) = some (some (.agg #[.slice none 0 0, .slice none 0 0, .int .i64 0, .int .i64 0, .slice none 0 0, .slice none 0 0, .bool false]), 7, 120) := by kernel_rfl
def OwnC (S : Nat → Prop) (B : Nat) (w : World) (v : Value) (l : List Rep) : Prop :=
 ∃ vs : Nat → RV, (∀ b, S b → b < w.heap.size ∧ v.ownBlock ≠ some b) ∧ w.ownsRow B 28 7 v l.length (flat (fun i => repC (rep l i) (vs i)) l.length) ∧
  ∀ i, i < l.length → RepAt S w (rep l i) (vs i)
theorem OwnC.nil (S : Nat → Prop) (B : Nat) (w : World) (hS : ∀ b, S b → b < w.heap.size) : OwnC S B w (.slice none 0 0) [] :=
 ⟨fun _ => ⟨.nilFunc, .nilFunc, .nilFunc, .nilFunc⟩, fun b hb => ⟨hS b hb, by simp [Value.ownBlock]⟩, World.ownsRow_nil _ _ _ _, fun i hi => by simp at hi⟩
theorem OwnC.below {S : Nat → Prop} {B : Nat} {w w' : World} {v : Value} {l : List Rep} (h : OwnC S B w v l) (hb : Below w.heap.size w w') : OwnC S B w' v l := by
 obtain ⟨vs, h1, h2, h3⟩ := h
 exact ⟨vs, fun b hS => ⟨Nat.lt_of_lt_of_le (h1 b hS).1 hb.size, (h1 b hS).2⟩, own_below h2 hb, fun i hi => (h3 i hi).below hb⟩
theorem OwnC.upd {S T : Nat → Prop} {B : Nat} {w w' : World} {v : Value} {l : List Rep} (h : OwnC S B w v l) (hu : Upd T w w') (hS : ∀ b, S b → ¬ T b) (hv : ∀ g, v.ownBlock = some g → ¬ T g) : OwnC S B w' v l := by
 obtain ⟨vs, h1, h2, h3⟩ := h
 exact ⟨vs, fun b hb => ⟨Nat.lt_of_lt_of_le (h1 b hb).1 hu.size, (h1 b hb).2⟩, own_upd h2 hu hv, fun i hi => (h3 i hi).upd hu hS⟩
theorem OwnC.shape {S : Nat → Prop} {B : Nat} {w : World} {v : Value} {l : List Rep} (h : OwnC S B w v l) : ∃ a c, v = .slice a l.length c := let ⟨_, _, h2, _⟩ := h; own_shape h2
theorem OwnC.block {S : Nat → Prop} {B : Nat} {w : World} {v : Value} {l : List Rep} (h : OwnC S B w v l) {g : Nat} (hg : v.ownBlock = some g) : B ≤ g ∧ g < w.heap.size := let ⟨_, _, h2, _⟩ := h; h2.lt g hg
theorem OwnC.lt {S : Nat → Prop} {B : Nat} {w : World} {v : Value} {l : List Rep} (h : OwnC S B w v l) {b : Nat} (hb : S b) : b < w.heap.size := let ⟨_, h1, _, _⟩ := h; (h1 b hb).1
theorem OwnC.reps {S S' : Nat → Prop} {B : Nat} {w : World} {v : Value} {l : List Rep} (h : OwnC S B w v l) (hl : l.length * 120 ≤ 140737488351232) (hS : ∀ b, S b → S' b) (hB : ∀ b, v.ownBlock = some b → S' b) : RepsV S' w v l := by
 obtain ⟨vs, h1, h2, h3⟩ := h
 refine ⟨vs, own_sl h2 hB hl (fun i hi j u hu => ?_), fun i hi => (h3 i hi).weaken hS⟩
 exact flat_get (cs := fun i => repC (rep l i) (vs i)) (fun _ _ => rfl) i hi j u hu
theorem OwnC.any {S : Nat → Prop} {B : Nat} {w : World} {v : Value} {l : List Rep} (h : OwnC S B w v l) (hl : l.length * 120 ≤ 140737488351232) : RepsV (fun _ => True) w v l := h.reps hl (fun _ _ => trivial) (fun _ _ => trivial)
theorem OwnC.weaken {S S' : Nat → Prop} {B B' : Nat} {w : World} {v : Value} {l : List Rep} (h : OwnC S B w v l) (hS : ∀ b, S b → S' b) (hS' : ∀ b, S' b → b < w.heap.size ∧ v.ownBlock ≠ some b) (hB : B' ≤ B) : OwnC S' B' w v l := by
 obtain ⟨vs, h1, h2, h3⟩ := h
 exact ⟨vs, hS', own_mono h2 hB, fun i hi => (h3 i hi).weaken hS⟩
theorem OwnC.own {S : Nat → Prop} {B : Nat} {w : World} {v : Value} {l : List Rep} (h : OwnC S B w v l) {b : Nat} (hb : S b) : v.ownBlock ≠ some b := let ⟨_, h1, _, _⟩ := h; (h1 b hb).2
theorem OwnC.list {S : Nat → Prop} {B : Nat} {w : World} {v : Value} {l l' : List Rep} (e : l' = l) (h : OwnC S B w v l') : OwnC S B w v l := e ▸ h
theorem OwnC.free {S : Nat → Prop} {B : Nat} {w : World} {l : List Rep} {g o n c : Nat} (h : OwnC S B w (.slice (some ⟨g, o, none⟩) n c) l) (j : Nat) : w.frozen? ⟨g, j, none⟩ = false := by
 obtain ⟨vs, h1, ⟨_, h2⟩, h3⟩ := h
 rcases h2 with ⟨e, _⟩ | ⟨g', cap, cur, e, _, hh, _⟩
 ·cases e
 ·cases e; exact block_free hh
theorem rep_app_lt {l m : List Rep} {i : Nat} (h : i < l.length) : rep (l ++ m) i = rep l i := by
 unfold rep at_; simp only [List.getD_eq_getElem?_getD, List.getElem?_append_left h]
theorem rep_app_ge {l m : List Rep} {i : Nat} : rep (l ++ m) (l.length + i) = rep m i := by
 unfold rep at_; simp only [List.getD_eq_getElem?_getD]
 rw [List.getElem?_append_right (by omega), show l.length + i - l.length = i by omega]
theorem one_repC {S : Nat → Prop} {w : World} {r : Rep} {x : RV} (h : RepAt S w r x) : ∀ u ∈ repC r x, u.oneCell' = true := by
 obtain ⟨y, rfl⟩ := h.ra
 intro u hu
 simp only [repC, RA.rv, List.mem_cons, List.not_mem_nil, or_false] at hu
 rcases hu with rfl | rfl | rfl | rfl | rfl | rfl | rfl <;> rfl
theorem reps_news {S : Nat → Prop} {w : World} {a : Option Addr} {n cap : Nat} {l : List Rep} {lvs : Nat → RV} (h : Sl S w (.slice a n cap) 7 120 l.length (fun i => repC (rep l i) (lvs i))) (hn : 0 < l.length) :
  ∃ ad, a = some ad ∧ ∀ j u, (flat (fun i => repC (rep l i) (lvs i)) l.length)[j]? = some u → w.cell? (ad.add j) = some u := by
 obtain ⟨a', cap', hv, h1, h2, h3, h4⟩ := h
 cases hv
 obtain ⟨b, off, rfl, hb, hc⟩ := h4 hn
 refine ⟨_, rfl, fun j u hu => ?_⟩
 have hj : j < l.length * 7 := by
  rcases Nat.lt_or_ge j (l.length * 7) with h | h
  ·exact h
  ·rw [List.getElem?_eq_none (by rw [flat_length (sz := 7) fun _ _ => rfl]; exact h)] at hu; cases hu
 have hi' : j / 7 < l.length := by omega
 have hm : j % 7 < (repC (rep l (j / 7)) (lvs (j / 7))).length := by show j % 7 < 7; omega
 have e := flat_get (cs := fun i => repC (rep l i) (lvs i)) (sz := 7) (n := l.length) (fun _ _ => rfl) (j / 7) hi' (j % 7) _ (List.getElem?_eq_getElem hm)
 rw [show j / 7 * 7 + j % 7 = j by omega, hu] at e
 have := hc (j / 7) hi' (j % 7) u (by rw [List.getElem?_eq_getElem hm]; exact e.symm)
 rw [show (⟨b, off, none⟩ : Addr).add j = ⟨b, off + j, none⟩ by unfold Addr.add; split <;> simp_all]
 rw [show off + j = off + j / 7 * 7 + j % 7 by omega]; exact this
theorem append_reps {B : Nat} {w : World} {v mv : Value} {l more : List Rep} {S S1 : Nat → Prop} (ty : TypeId) (hG : OwnC S1 B w v l) (h : RepsV S w mv more) (hS : ∀ b, S b → b < w.heap.size ∧ v.ownBlock ≠ some b)
  (hl : (l.length + more.length) * 120 ≤ 140737488351232) (hB : B ≤ w.heap.size) :
  ∃ v' x, (Builtin.append_ #[64, 64] ty #[v, mv]).run Tryz.prog w = .ok v' x ∧ OwnC (fun b => S1 b ∨ S b) B x v' (l ++ more) ∧ Upd (fun b => v.ownBlock = some b) w x := by
 obtain ⟨i0, hi, hz0, hz1, hz2⟩ := info_parts Tryz.infoRep
 have hG' := hG
 obtain ⟨lvs1, h1, hown, h3⟩ := hG
 obtain ⟨lvs, hsl, h5⟩ := h
 have hsl' := hsl
 obtain ⟨a, cap, rfl, hc1, hc2, hc3, _⟩ := hsl'
 by_cases h0 : more.length = 0
 ·obtain rfl : more = [] := List.length_eq_zero_iff.1 h0
  obtain ⟨base, sc, hv, hle⟩ : ∃ base sc, v = .slice base l.length sc ∧ l.length ≤ sc := by
   rcases hown.2 with ⟨rfl, hn⟩ | ⟨g, c, cur, rfl, _, _, hn, _⟩
   ·exact ⟨none, 0, by rw [hn], by omega⟩
   ·exact ⟨_, _, rfl, hn⟩
  subst hv
  refine ⟨_, w, run_append_nothing _ 64 64 ty 28 i0 Tryz.underlying64 hi base l.length sc hle _
   ⟨.inl ⟨_, Tryz.underlying64⟩, fun w' => by simp [Builtin.lenOf], by cases a <;> simp [Builtin.firstCells] <;> rfl, by cases a <;> simp [Builtin.firstCells] <;> rfl, by simp, by simp⟩, ?_, Upd.refl _ _⟩
  rw [List.append_nil]; exact hG'.weaken (fun _ h => .inl h) (fun b hb => by rcases hb with hb | hb; exact h1 b hb; exact hS b hb) (Nat.le_refl _)
 ·obtain ⟨ad, rfl, hnews⟩ := reps_news hsl (by omega)
  obtain ⟨g, c, x, hr, ho, hg, hor, hlt⟩ := run_append_lies (P := Tryz.prog) w 64 ty B 28 i0 _ 7 120 Tryz.underlying64 hi hz0 hz1 hz2 rfl (by omega) v l.length _ hown ad more.length cap
   (flat (fun i => repC (rep more i) (lvs i)) more.length) (flat_length fun _ _ => rfl) hnews (one_flat fun i hi => one_repC (h5 i hi)) (by omega) (by unfold maxLen; omega) (by omega) hB _ rfl
  have hu : Upd (fun b => v.ownBlock = some b) w x := Upd.grown (Upd.refl _ _) hg (fun k hk _ => hk)
  refine ⟨_, x, hr, ⟨fun i => if i < l.length then lvs1 i else lvs (i - l.length), fun b hb => ?_, ?_, fun i hi => ?_⟩, hu⟩
  ·have hb' : b < w.heap.size ∧ v.ownBlock ≠ some b := by rcases hb with hb | hb; exact h1 b hb; exact hS b hb
   refine ⟨Nat.lt_of_lt_of_le hb'.1 hu.size, fun e => ?_⟩
   have e' : g = b := by simpa [Value.ownBlock] using e
   rcases hor with h | h
   ·exact hb'.2 (by rw [h, e'])
   ·omega
  ·rw [List.length_append, flat_add]
   have e1 : flat (fun i => repC (rep (l ++ more) i) (if i < l.length then lvs1 i else lvs (i - l.length))) l.length = flat (fun i => repC (rep l i) (lvs1 i)) l.length :=
    flat_congr fun i hi => by rw [rep_app_lt hi, if_pos hi]
   have e2 : flat (fun j => repC (rep (l ++ more) (l.length + j)) (if l.length + j < l.length then lvs1 (l.length + j) else lvs (l.length + j - l.length))) more.length = flat (fun i => repC (rep more i) (lvs i)) more.length :=
    flat_congr fun i hi => by rw [rep_app_ge, if_neg (by omega), show l.length + i - l.length = i by omega]
   rw [e1, e2]; exact ho
  ·rw [List.length_append] at hi
   by_cases hlt : i < l.length
   ·simp only [rep_app_lt hlt, if_pos hlt]
    exact ((h3 i hlt).upd hu (fun b hb e => (h1 b hb).2 e)).weaken fun _ h => .inl h
   ·obtain ⟨j, rfl⟩ : ∃ j, i = l.length + j := ⟨i - l.length, by omega⟩
    simp only [rep_app_ge, if_neg hlt, show l.length + j - l.length = j by omega]
    exact ((h5 j (by omega)).upd hu (fun b hb e => (hS b hb).2 e)).weaken fun _ h => .inr h
theorem rep_set {l : List Rep} {i j : Nat} {r : Rep} (hj : j < l.length) : rep (l.set i r) j = if j = i then r else rep l j := by
 unfold rep at_
 simp only [List.getD_eq_getElem?_getD, List.getElem?_set]
 by_cases e : i = j
 ·subst e; simp [hj]
 ·rw [if_neg e, if_neg (fun h => e h.symm)]
theorem OwnC.set {S S2 : Nat → Prop} {B : Nat} {w : World} {l : List Rep} {r : Rep} {x : RV} {g n c i : Nat} (h : OwnC S B w (.slice (some ⟨g, 0, none⟩) n c) l) (hi : i < l.length) (hr : RepAt S2 w r x)
  (h2 : ∀ b, S2 b → b < w.heap.size ∧ b ≠ g) :
  OwnC (fun b => S b ∨ S2 b) B (w.setCells g (i * 7) (repC r x)) (.slice (some ⟨g, 0, none⟩) n c) (l.set i r) ∧ Upd (fun b => b = g) w (w.setCells g (i * 7) (repC r x)) := by
 have hu := setCells_frame g (repC r x) (i * 7) w
 refine ⟨?_, hu⟩
 obtain ⟨vs, h1, ⟨hxl, hown⟩, h3⟩ := h
 rcases hown with ⟨e, _⟩ | ⟨g', cap, cur, e, hBg, hg, hnc, hcm, hcs, hxs⟩
 ·cases e
 cases e
 have hcl : cur.toList.length = c * 7 := by simp [hcs]
 have hw := setCells_heap g 28 (repC r x) (i * 7) cur w hg (by rw [hcs]; show i * 7 + 7 ≤ _; omega)
 refine ⟨fun j => if j = i then x else vs j, fun b hb => ?_, ⟨?_, .inr ⟨g, c, _, by rw [List.length_set], hBg, hw, by rw [List.length_set]; exact hnc, hcm, ?_, ?_⟩⟩, fun j hj => ?_⟩
 ·rcases hb with hb | hb
  ·exact ⟨Nat.lt_of_lt_of_le (h1 b hb).1 hu.size, (h1 b hb).2⟩
  ·exact ⟨Nat.lt_of_lt_of_le (h2 b hb).1 hu.size, fun e => (h2 b hb).2 (by simpa [Value.ownBlock, eq_comm] using e)⟩
 ·exact flat_length fun _ _ => rfl
 ·simp only [List.size_toArray, List.length_append, List.length_take, List.length_drop, hcl]; show min (i * 7) (c * 7) + 7 + (c * 7 - (i * 7 + 7)) = c * 7; omega
 ·rw [List.length_set]
  have e1 : flat (fun j => repC (rep (l.set i r) j) (if j = i then x else vs j)) l.length = flat (fun j => if j = i then repC r x else repC (rep l j) (vs j)) l.length :=
   flat_congr fun j hj => by
    rw [rep_set hj]
    by_cases e : j = i
    ·rw [if_pos e, if_pos e, if_pos e]
    ·rw [if_neg e, if_neg e, if_neg e]
  rw [e1, ← flat_put (cs := fun j => repC (rep l j) (vs j)) (ys := repC r x) (sz := 7) (n := l.length) (i := i) (fun _ _ => rfl) hi, ← hxs]
  simp only [List.toList_toArray]
  exact take_put (ys := repC r x) (A := cur.toList) (a := i * 7) (m := 7) (n := l.length * 7) rfl (by omega) (by rw [hcl]; omega)
 ·rw [List.length_set] at hj
  rw [rep_set hj]
  by_cases e : j = i
  ·subst e
   simp only [if_true]
   exact (RepIs.upd hr hu (fun b hb e => (h2 b hb).2 e)).weaken fun _ h => .inr h
  ·simp only [if_neg e]
   exact (RepIs.upd (h3 j hj) hu (fun b hb e => (h1 b hb).2 (by subst e; rfl))).weaken fun _ h => .inl h
theorem reps_new {S : Nat → Prop} (w : World) (r : Rep) (x : RV) (t : TypeId) (N : Nat) (hN : N = w.heap.size) (h : RepAt S w r x) :
  RepsV (fun b => S b ∨ b = N) (w.alloc (.cells (repC r x).toArray t)) (.slice (some ⟨N, 0, none⟩) 1 1) [r] := by
 subst hN
 refine ⟨fun _ => x, ⟨some ⟨w.heap.size, 0, none⟩, 1, rfl, Nat.le_refl _, by omega, by simp, fun _ => ⟨w.heap.size, 0, rfl, .inr rfl, fun i hi j u hu => ?_⟩⟩, fun i hi => ?_⟩
 ·obtain rfl : i = 0 := by simp at hi; omega
  refine block_cell (heap_alloc_new w _) ?_
  have hu' : (repC r x)[j]? = some u := hu
  simpa using hu'
 ·obtain rfl : i = 0 := by simp at hi; omega
  exact (RepIs.below h ((Below.refl _ _).alloc (Nat.le_refl _) _)).weaken fun _ h => .inl h
theorem OwnC.shape3 {S : Nat → Prop} {B : Nat} {w : World} {v : Value} {l : List Rep} (h : OwnC S B w v l) : ∃ a n c, v = .slice a n c := let ⟨a, c, e⟩ := h.shape; ⟨a, _, c, e⟩
def OwnF (B : Nat) (w : World) (v : Value) (l : List Rep) : Prop := ∃ F : Nat → Prop, OwnC F B w v l ∧ ∀ b, F b → B ≤ b
theorem take_next_rep {l : List Rep} {k : Nat} (h : k < l.length) : l.take (k + 1) = l.take k ++ [rep l k] := by
 rw [List.take_succ_eq_append_getElem h, rep_lt h]
set_option maxRecDepth 100000 in
set_option maxHeartbeats 4000000 in
theorem cluOwn_any (l : List Rep) (v : Value) (S : Nat → Prop) (w : World) (h : RepsV S w v l) :
  Calls Tryz.prog 114 #[.agg #[v]] w fun e w' => ∃ v', e = .returned (.agg #[v']) ∧ OwnF w.heap.size w' v' l ∧ Below w.heap.size w w' := by
 obtain ⟨a, n, cap, fr, HN, rfl, h1, h2, h3, h4, h5⟩ := h.open
 clear h
 have HL := Lib.hid (show l.take n = l by rw [HN.out]; exact List.take_length)
 have HT := Lib.hid (fun k (hk : k < n) => take_next_rep (l := l) (k := k) (by rw [← HN.out]; exact hk))
 have HTl := Lib.hid (fun k => show (l.take k).length ≤ k by rw [List.length_take]; omega)
 obtain ⟨w3, hw3⟩ : ∃ w3, w3 = ((w.alloc (.cells #[.slice a n cap] 66)).alloc (.cells #[.slice none 0 0] 66)).alloc (.cells #[.slice none 0 0] 66) := ⟨_, rfl⟩
 have hs3 : w3.heap.size = w.heap.size + 3 := by rw [hw3]; simp
 have hb3 : Below w.heap.size w w3 := by rw [hw3]; exact foldl_below [_, _, _] w
 have hcl3 := cls_of w w3 (w.heap.size + 2) (by omega) (by omega) hb3
 have g0 : w3.heap[w.heap.size]? = some (.cells #[.slice a n cap] 66 (0, 0)) := by rw [hw3]; exact foldl_get [_, _, _] w 0 _ rfl
 have g1 : w3.heap[w.heap.size + 1]? = some (.cells #[.slice none 0 0] 66 (0, 0)) := by rw [hw3]; exact foldl_get [_, _, _] w 1 _ rfl
 have g2 : w3.heap[w.heap.size + 2]? = some (.cells #[.slice none 0 0] 66 (0, 0)) := by rw [hw3]; exact foldl_get [_, _, _] w 2 _ rfl
 obtain ⟨R, hR⟩ : ∃ R : World → Prop, R = fun x => Below (w.heap.size + 2) w3 x := ⟨_, rfl⟩
 rw [← hR] at hcl3
 have hRb := hcl3.below
 have hRn := hcl3.next
 have hR3 : In R w3 := by rw [hR]; exact Below.refl _ _
 have HRu := Lib.hid (fun x y (T : Nat → Prop) (hx : In R x) (hu : Upd T x y) (hT : ∀ b, T b → w.heap.size + 2 ≤ b) => show In R y by rw [hR] at hx ⊢; exact Below.trans (hx : Below _ _ _) (hu.below (by have := Below.size (hx : Below _ _ _); omega) hT))
 have HRs := Lib.hid (fun x (hx : In R x) => show w.heap.size + 3 ≤ x.heap.size by rw [hR] at hx; have := Below.size (hx : Below _ _ _); omega)
 have c0 : ∀ x, In R x → x.cell? ⟨w.heap.size, 0, none⟩ = some (.slice a n cap) := fun x hx => by rw [hR] at hx; exact block_cell (j := 0) ((Below.block (hx : Below _ _ _) _ (by omega)).trans g0) rfl
 have HZ := Lib.hid (fun x (hx : In R x) => show x.heap[w.heap.size + 1]? = some (.cells #[.slice none 0 0] 66 (0, 0)) by rw [hR] at hx; exact (Below.block (hx : Below _ _ _) _ (by omega)).trans g1)
 have cc := c0 _ hR3
 have HI0 := Lib.hid (show ∃ va vn vc, OwnF (w.heap.size + 3) w3 (.slice va vn vc) (l.take 0) ∧ w3.heap[w.heap.size + 2]? = some (.cells #[.slice va vn vc] 66 (0, 0)) from ⟨_, _, _, ⟨fun _ => False, OwnC.nil _ _ _ (fun _ h => h.elim), fun _ h => h.elim⟩, g2⟩)
 clear hR hcl3 g0 g1 g2 hs3 hb3
 have Hw3 := Lib.hid hw3
 rw [hw3] at cc
 clear hw3
 go_enter Tryz.func114, Tryz.ntmps114
 go_wp2_with fail
 rw [← Hw3.out]
 clear cc
 go_loopw [9] (fun i wr => ∃ k : Nat, k ≤ n ∧ i = .int .i64 k ∧ Hid (∃ va vn vc, OwnF (w.heap.size + 3) wr (.slice va vn vc) (l.take k) ∧ wr.heap[w.heap.size + 2]? = some (.cells #[.slice va vn vc] 66 (0, 0))) ∧ In R wr) (fun i _ => n - (intOf i).toNat)
 case atStart => exact ⟨0, by omega, rfl, HI0.out, hR3⟩
 case round =>
  obtain ⟨k, hk, rfl, HI, hRw⟩ := hrel
  clear hR3 HI0
  obtain ⟨va, vn, vc, ⟨F, hO, hF⟩, hJ⟩ := HI.out
  have hsw := HRs.out _ hRw
  by_cases hlt : k < n
  ·obtain ⟨b, off, rfl, hb, k0, k1, k2, k3, k4, k5, k6⟩ := h4 (by omega)
   have x0 := k0 k wr hlt (hRb _ hRw)
   have x1 := k1 k wr hlt (hRb _ hRw)
   have x2 := k2 k wr hlt (hRb _ hRw)
   have x3 := k3 k wr hlt (hRb _ hRw)
   have x4 := k4 k wr hlt (hRb _ hRw)
   have x5 := k5 k wr hlt (hRb _ hRw)
   have x6 := k6 k wr hlt (hRb _ hRw)
   obtain ⟨Q, hQ, hQ1, hy⟩ := cls_box wr #[.slice (fr k).sa (rep l k).store.length (fr k).sc, .slice (fr k).ra (rep l k).refs.length (fr k).rc, .int .i64 (rep l k).gen, .int .i64 (rep l k).phase, .slice (fr k).oa (rep l k).pend.objects.length (fr k).oc, .slice (fr k).ua (rep l k).pend.updates.length (fr k).uc, .bool (rep l k).pend.force] 28
   have hQb := hQ.below
   have hQn := hQ.next
   have hQR : ∀ x, In Q x → In R x := fun x hx => hRn _ _ hRw (hQb x hx)
   have HS : ∀ x, In Q x → (fun x : World => x.cell? ⟨wr.heap.size, 0, none⟩ = some (.slice (fr k).sa (rep l k).store.length (fr k).sc) ∧ x.cell? ⟨wr.heap.size, 1, none⟩ = some (.slice (fr k).ra (rep l k).refs.length (fr k).rc) ∧ x.cell? ⟨wr.heap.size, 2, none⟩ = some (.int .i64 (rep l k).gen) ∧ x.cell? ⟨wr.heap.size, 3, none⟩ = some (.int .i64 (rep l k).phase) ∧ x.cell? ⟨wr.heap.size, 4, none⟩ = some (.slice (fr k).oa (rep l k).pend.objects.length (fr k).oc) ∧ x.cell? ⟨wr.heap.size, 5, none⟩ = some (.slice (fr k).ua (rep l k).pend.updates.length (fr k).uc) ∧ x.cell? ⟨wr.heap.size, 6, none⟩ = some (.bool (rep l k).pend.force)) x := fun x hx => ⟨hy 0 _ rfl x hx, hy 1 _ rfl x hx, hy 2 _ rfl x hx, hy 3 _ rfl x hx, hy 4 _ rfl x hx, hy 5 _ rfl x hx, hy 6 _ rfl x hx⟩
   have HO := Lib.hid (fun x (hx : In Q x) => hO.below (hQb _ hx))
   have HJ := Lib.hid (fun x (hx : In Q x) => ((hQb _ hx).block _ (show w.heap.size + 2 < wr.heap.size by omega)).trans hJ)
   have HC := Lib.hid (fun x (hx : In Q x) => repOwn_any (rep l k) _ _ _ _ _ x ((h5 k hlt).below (hRb _ (hQR _ hx))))
   simp only [repV] at HC
   have hi1 : (0 : Int) ≤ (k : Int) := by omega
   have hi2 : (k : Int) < (n : Int) := by omega
   have Hob := Lib.hid (fun g (hg : (Value.slice va vn vc).ownBlock = some g) => hO.block hg)
   have HF := Lib.hid hF
   have hlk := HTl.out k
   have HTk := Lib.hid (HT.out k hlt)
   clear hy h4 h5 hO hJ hF HT HL c0 k0 k1 k2 k3 k4 k5 k6
   obtain ⟨wo, rfl⟩ : ∃ wo : World, wo = wr := ⟨_, rfl⟩
   go_wp2_with fail
   refine wp_region_held (S := (fun x : World => x.cell? ⟨wo.heap.size, 0, none⟩ = some (.slice (fr k).sa (rep l k).store.length (fr k).sc) ∧ x.cell? ⟨wo.heap.size, 1, none⟩ = some (.slice (fr k).ra (rep l k).refs.length (fr k).rc) ∧ x.cell? ⟨wo.heap.size, 2, none⟩ = some (.int .i64 (rep l k).gen) ∧ x.cell? ⟨wo.heap.size, 3, none⟩ = some (.int .i64 (rep l k).phase) ∧ x.cell? ⟨wo.heap.size, 4, none⟩ = some (.slice (fr k).oa (rep l k).pend.objects.length (fr k).oc) ∧ x.cell? ⟨wo.heap.size, 5, none⟩ = some (.slice (fr k).ua (rep l k).pend.updates.length (fr k).uc) ∧ x.cell? ⟨wo.heap.size, 6, none⟩ = some (.bool (rep l k).pend.force))) (by kernel_rfl) ?_
   change wpAnyH _ _ _ _ _ _ _ _ (World.drew _)
   have hC0 := hQ.drew _ hQ1
   generalize (wo.alloc _).drew = x0 at hC0 ⊢
   clear hQ1
   have hS0 := HS _ hC0
   refine wpAnyH_take (i := 0) (v := .pointer (some ⟨w.heap.size + 2, 0, none⟩)) rfl (by kernel_rfl) (by kernel_rfl) (by kernel_rfl) (fun _ _ _ h => h) (Or.inl ⟨by rfl, fun w hSw => ?_⟩) hS0 ?_
   ·go_simp
   simp only [Act.put, List.setIfInBounds_toArray, List.set_cons_zero, List.set_cons_succ]
   refine wpAnyH_take (i := 2) (v := .agg #[.slice (fr k).sa (rep l k).store.length (fr k).sc, .slice (fr k).ra (rep l k).refs.length (fr k).rc, .int .i64 (rep l k).gen, .int .i64 (rep l k).phase, .slice (fr k).oa (rep l k).pend.objects.length (fr k).oc, .slice (fr k).ua (rep l k).pend.updates.length (fr k).uc, .bool (rep l k).pend.force]) rfl (by kernel_rfl) (by kernel_rfl) (by kernel_rfl) (fun _ _ _ h => h) (Or.inl ⟨by rfl, fun w hSw => ?_⟩) hS0 ?_
   ·obtain ⟨y0, y1, y2, y3, y4, y5, y6⟩ := hSw; go_simp
   simp only [Act.put, List.setIfInBounds_toArray, List.set_cons_zero, List.set_cons_succ]
   refine wpAnyH_all (rs := [1, 3]) (by kernel_rfl) (by simp) (fun j hj => ?_)
   rcases List.mem_cons.1 hj with rfl | hj
   ·skip
    refine Or.inl ?_
    have cJw := block_cell (j := 0) (HJ.out _ hC0) rfl
    go_simp
    clear cJw
    refine wpAnyH_all (rs := [3]) (by kernel_rfl) (by simp) (fun j hj => ?_)
    obtain rfl : j = 3 := by simpa using hj
    refine Or.inl ?_
    go_wp2_with fail
    refine (HC.out _ hC0).mono ?_
    rintro e x1 ⟨sv1, rv1, ov1, uv1, rfl, hv, hb1⟩
    have hC1 := hQn _ _ hC0 hb1
    have hs0 := (hQb _ hC0).size
    have hs1 := hb1.size
    have Hv := Lib.hid hv
    obtain ⟨sa1, sc1, rfl⟩ := hv.store.vshape
    obtain ⟨⟨ra1, rc1⟩, rfl⟩ := hv.refs.shape
    obtain ⟨oa1, oc1, rfl⟩ := hv.objs.vshape
    obtain ⟨⟨ua1, uc1⟩, rfl⟩ := hv.upds.shape
    have hS1 := HS _ hC1
    clear hv hb1
    simp only [repV]
    go_simp
    refine wpAnyH_all (rs := [4]) (by kernel_rfl) (by simp) (fun j hj => ?_)
    obtain rfl : j = 4 := by simpa using hj
    refine Or.inl ?_
    have hC2 := hQ.alloc _ (.cells #[.slice sa1 (rep l k).store.length sc1, .slice ra1 (rep l k).refs.length rc1, .int .i64 (rep l k).gen, .int .i64 (rep l k).phase, .slice oa1 (rep l k).pend.objects.length oc1, .slice ua1 (rep l k).pend.updates.length uc1, .bool (rep l k).pend.force] 28) hC1
    have hS2 := HS _ hC2
    have hrow := Lib.hid (reps_new x1 (rep l k) ⟨.slice sa1 (rep l k).store.length sc1, .slice ra1 (rep l k).refs.length rc1, .slice oa1 (rep l k).pend.objects.length oc1, .slice ua1 (rep l k).pend.updates.length uc1⟩ 28 x1.heap.size rfl (RepIs.lt Hv.out))
    go_simp
    refine wpAnyH_all (rs := [5]) (by kernel_rfl) (by simp) (fun j hj => ?_)
    obtain rfl : j = 5 := by simpa using hj
    refine Or.inl ?_
    obtain ⟨v4, x4, hr4, hO4, hu4⟩ := append_reps 64 (HO.out _ hC2) hrow.out (fun b hb => ⟨by rcases hb with hb | hb; have := hb.2; simp; omega; simp; omega, fun e => by have := (Hob.out _ e).2; rcases hb with hb | hb; have := hb.1; omega; omega⟩) (by simp; omega) (by simp; omega)
    obtain ⟨a4, n4, c4, rfl⟩ := hO4.shape3
    refine wp_append_run (.tmp 14) (.tmp 17) 64 (by rfl) _ _ _ (by rfl) (by rfl) hr4 ?_
    simp only [Act.put, List.setIfInBounds_toArray, List.set_cons_zero, List.set_cons_succ]
    have hjo : ∀ b, (Value.slice va vn vc).ownBlock = some b → w.heap.size + 3 ≤ b ∧ b < wo.heap.size := fun b hb => Hob.out b hb
    have hS4 : (fun x : World => x.cell? ⟨wo.heap.size, 0, none⟩ = some (.slice (fr k).sa (rep l k).store.length (fr k).sc) ∧ x.cell? ⟨wo.heap.size, 1, none⟩ = some (.slice (fr k).ra (rep l k).refs.length (fr k).rc) ∧ x.cell? ⟨wo.heap.size, 2, none⟩ = some (.int .i64 (rep l k).gen) ∧ x.cell? ⟨wo.heap.size, 3, none⟩ = some (.int .i64 (rep l k).phase) ∧ x.cell? ⟨wo.heap.size, 4, none⟩ = some (.slice (fr k).oa (rep l k).pend.objects.length (fr k).oc) ∧ x.cell? ⟨wo.heap.size, 5, none⟩ = some (.slice (fr k).ua (rep l k).pend.updates.length (fr k).uc) ∧ x.cell? ⟨wo.heap.size, 6, none⟩ = some (.bool (rep l k).pend.force)) x4 := ⟨hu4.cell hS2.1 (fun e => absurd (hjo _ e).2 (Nat.lt_irrefl _)), hu4.cell hS2.2.1 (fun e => absurd (hjo _ e).2 (Nat.lt_irrefl _)), hu4.cell hS2.2.2.1 (fun e => absurd (hjo _ e).2 (Nat.lt_irrefl _)), hu4.cell hS2.2.2.2.1 (fun e => absurd (hjo _ e).2 (Nat.lt_irrefl _)), hu4.cell hS2.2.2.2.2.1 (fun e => absurd (hjo _ e).2 (Nat.lt_irrefl _)), hu4.cell hS2.2.2.2.2.2.1 (fun e => absurd (hjo _ e).2 (Nat.lt_irrefl _)), hu4.cell hS2.2.2.2.2.2.2 (fun e => absurd (hjo _ e).2 (Nat.lt_irrefl _))⟩
    have hJ4 := hu4.blk (HJ.out _ hC2) (fun e => by have := (hjo _ e).1; omega)
    have hR4 := HRu.out _ _ _ (hQR _ hC2) hu4 (fun b hb => by have := (hjo _ hb).1; omega)
    have HO4 := Lib.hid hO4
    refine ⟨hS4, ?_⟩
    clear hO4 hr4 hu4 hjo hrow
    refine wpAnyH_all (rs := [6]) (by kernel_rfl) (by simp) (fun j hj => ?_)
    obtain rfl : j = 6 := by simpa using hj
    refine Or.inl ?_
    go_simp
    first | refine ⟨hS4, ?_⟩ | skip
    refine wpAnyH_all (rs := [7]) (by kernel_rfl) (by simp) (fun j hj => ?_)
    obtain rfl : j = 7 := by simpa using hj
    refine Or.inl ?_
    have cJ := block_cell (j := 0) hJ4 rfl
    have fJ := block_free (j := 0) hJ4
    go_wp2_with fail
    first | refine ⟨hS4, by kernel_rfl, ?_⟩ | refine ⟨by kernel_rfl, ?_⟩
    have hu5 : Upd (fun b => b = w.heap.size + 2) x4 (x4.setCell ⟨w.heap.size + 2, 0, none⟩ (.slice a4 n4 c4)) := (Upd.refl (fun b => b = w.heap.size + 2) x4).setCell (p := ⟨w.heap.size + 2, 0, none⟩) (fun _ => rfl) _
    have hJ5 : (x4.setCell ⟨w.heap.size + 2, 0, none⟩ (.slice a4 n4 c4)).heap[w.heap.size + 2]? = some (.cells #[.slice a4 n4 c4] 66 (0, 0)) := block_setCell (j := 0) hJ4 (.slice a4 n4 c4)
    have hR5 := HRu.out _ _ _ hR4 hu5 (fun b hb => by omega)
    have hge : ∀ b, (F b ∨ ((x0.heap.size ≤ b ∧ b < x1.heap.size) ∨ b = x1.heap.size)) → w.heap.size + 3 ≤ b := fun b hb => by rcases hb with hb | hb | hb; exact HF.out b hb; omega; omega
    have hO5 : OwnF (w.heap.size + 3) _ (.slice a4 n4 c4) (l.take (k + 1)) := ⟨_, OwnC.list HTk.out.symm (HO4.out.upd hu5 (fun b hb e => by have := hge b hb; omega) (fun g hg e => by have := (HO4.out.block hg).1; omega)), hge⟩
    generalize x4.setCell ⟨w.heap.size + 2, 0, none⟩ (.slice a4 n4 c4) = x5 at *
    have HI5 := Lib.hid (show ∃ va vn vc, OwnF (w.heap.size + 3) x5 (.slice va vn vc) (l.take (k + 1)) ∧ x5.heap[w.heap.size + 2]? = some (.cells #[.slice va vn vc] 66 (0, 0)) from ⟨_, _, _, hO5, hJ5⟩)
    clear hO5 hJ5 hge hu5 HO4 cJ fJ hS4 hJ4 hS0 hS1 hS2 HS HO HJ HC Hv HI
    go_wp2_with fail
    go_roundw
    case rel => exact ⟨k + 1, by omega, by go_num, HI5.out, hR5⟩
    case measure => simp [intOf]; omega
   ·skip
    obtain rfl : j = 3 := by simpa using hj
    refine Or.inl ?_
    go_wp2_with fail
    refine (HC.out _ hC0).mono ?_
    rintro e x1 ⟨sv1, rv1, ov1, uv1, rfl, hv, hb1⟩
    have hC1 := hQn _ _ hC0 hb1
    have hs0 := (hQb _ hC0).size
    have hs1 := hb1.size
    have Hv := Lib.hid hv
    obtain ⟨sa1, sc1, rfl⟩ := hv.store.vshape
    obtain ⟨⟨ra1, rc1⟩, rfl⟩ := hv.refs.shape
    obtain ⟨oa1, oc1, rfl⟩ := hv.objs.vshape
    obtain ⟨⟨ua1, uc1⟩, rfl⟩ := hv.upds.shape
    have hS1 := HS _ hC1
    clear hv hb1
    simp only [repV]
    go_simp
    refine wpAnyH_all (rs := [1, 4]) (by kernel_rfl) (by simp) (fun j hj => ?_)
    rcases List.mem_cons.1 hj with rfl | hj
    ·skip
     refine Or.inl ?_
     have cJw := block_cell (j := 0) (HJ.out _ hC1) rfl
     go_simp
     clear cJw
     refine wpAnyH_all (rs := [4]) (by kernel_rfl) (by simp) (fun j hj => ?_)
     obtain rfl : j = 4 := by simpa using hj
     refine Or.inl ?_
     have hC2 := hQ.alloc _ (.cells #[.slice sa1 (rep l k).store.length sc1, .slice ra1 (rep l k).refs.length rc1, .int .i64 (rep l k).gen, .int .i64 (rep l k).phase, .slice oa1 (rep l k).pend.objects.length oc1, .slice ua1 (rep l k).pend.updates.length uc1, .bool (rep l k).pend.force] 28) hC1
     have hS2 := HS _ hC2
     have hrow := Lib.hid (reps_new x1 (rep l k) ⟨.slice sa1 (rep l k).store.length sc1, .slice ra1 (rep l k).refs.length rc1, .slice oa1 (rep l k).pend.objects.length oc1, .slice ua1 (rep l k).pend.updates.length uc1⟩ 28 x1.heap.size rfl (RepIs.lt Hv.out))
     go_simp
     refine wpAnyH_all (rs := [5]) (by kernel_rfl) (by simp) (fun j hj => ?_)
     obtain rfl : j = 5 := by simpa using hj
     refine Or.inl ?_
     obtain ⟨v4, x4, hr4, hO4, hu4⟩ := append_reps 64 (HO.out _ hC2) hrow.out (fun b hb => ⟨by rcases hb with hb | hb; have := hb.2; simp; omega; simp; omega, fun e => by have := (Hob.out _ e).2; rcases hb with hb | hb; have := hb.1; omega; omega⟩) (by simp; omega) (by simp; omega)
     obtain ⟨a4, n4, c4, rfl⟩ := hO4.shape3
     refine wp_append_run (.tmp 14) (.tmp 17) 64 (by rfl) _ _ _ (by rfl) (by rfl) hr4 ?_
     simp only [Act.put, List.setIfInBounds_toArray, List.set_cons_zero, List.set_cons_succ]
     have hjo : ∀ b, (Value.slice va vn vc).ownBlock = some b → w.heap.size + 3 ≤ b ∧ b < wo.heap.size := fun b hb => Hob.out b hb
     have hS4 : (fun x : World => x.cell? ⟨wo.heap.size, 0, none⟩ = some (.slice (fr k).sa (rep l k).store.length (fr k).sc) ∧ x.cell? ⟨wo.heap.size, 1, none⟩ = some (.slice (fr k).ra (rep l k).refs.length (fr k).rc) ∧ x.cell? ⟨wo.heap.size, 2, none⟩ = some (.int .i64 (rep l k).gen) ∧ x.cell? ⟨wo.heap.size, 3, none⟩ = some (.int .i64 (rep l k).phase) ∧ x.cell? ⟨wo.heap.size, 4, none⟩ = some (.slice (fr k).oa (rep l k).pend.objects.length (fr k).oc) ∧ x.cell? ⟨wo.heap.size, 5, none⟩ = some (.slice (fr k).ua (rep l k).pend.updates.length (fr k).uc) ∧ x.cell? ⟨wo.heap.size, 6, none⟩ = some (.bool (rep l k).pend.force)) x4 := ⟨hu4.cell hS2.1 (fun e => absurd (hjo _ e).2 (Nat.lt_irrefl _)), hu4.cell hS2.2.1 (fun e => absurd (hjo _ e).2 (Nat.lt_irrefl _)), hu4.cell hS2.2.2.1 (fun e => absurd (hjo _ e).2 (Nat.lt_irrefl _)), hu4.cell hS2.2.2.2.1 (fun e => absurd (hjo _ e).2 (Nat.lt_irrefl _)), hu4.cell hS2.2.2.2.2.1 (fun e => absurd (hjo _ e).2 (Nat.lt_irrefl _)), hu4.cell hS2.2.2.2.2.2.1 (fun e => absurd (hjo _ e).2 (Nat.lt_irrefl _)), hu4.cell hS2.2.2.2.2.2.2 (fun e => absurd (hjo _ e).2 (Nat.lt_irrefl _))⟩
     have hJ4 := hu4.blk (HJ.out _ hC2) (fun e => by have := (hjo _ e).1; omega)
     have hR4 := HRu.out _ _ _ (hQR _ hC2) hu4 (fun b hb => by have := (hjo _ hb).1; omega)
     have HO4 := Lib.hid hO4
     refine ⟨hS4, ?_⟩
     clear hO4 hr4 hu4 hjo hrow
     refine wpAnyH_all (rs := [6]) (by kernel_rfl) (by simp) (fun j hj => ?_)
     obtain rfl : j = 6 := by simpa using hj
     refine Or.inl ?_
     go_simp
     first | refine ⟨hS4, ?_⟩ | skip
     refine wpAnyH_all (rs := [7]) (by kernel_rfl) (by simp) (fun j hj => ?_)
     obtain rfl : j = 7 := by simpa using hj
     refine Or.inl ?_
     have cJ := block_cell (j := 0) hJ4 rfl
     have fJ := block_free (j := 0) hJ4
     go_wp2_with fail
     first | refine ⟨hS4, by kernel_rfl, ?_⟩ | refine ⟨by kernel_rfl, ?_⟩
     have hu5 : Upd (fun b => b = w.heap.size + 2) x4 (x4.setCell ⟨w.heap.size + 2, 0, none⟩ (.slice a4 n4 c4)) := (Upd.refl (fun b => b = w.heap.size + 2) x4).setCell (p := ⟨w.heap.size + 2, 0, none⟩) (fun _ => rfl) _
     have hJ5 : (x4.setCell ⟨w.heap.size + 2, 0, none⟩ (.slice a4 n4 c4)).heap[w.heap.size + 2]? = some (.cells #[.slice a4 n4 c4] 66 (0, 0)) := block_setCell (j := 0) hJ4 (.slice a4 n4 c4)
     have hR5 := HRu.out _ _ _ hR4 hu5 (fun b hb => by omega)
     have hge : ∀ b, (F b ∨ ((x0.heap.size ≤ b ∧ b < x1.heap.size) ∨ b = x1.heap.size)) → w.heap.size + 3 ≤ b := fun b hb => by rcases hb with hb | hb | hb; exact HF.out b hb; omega; omega
     have hO5 : OwnF (w.heap.size + 3) _ (.slice a4 n4 c4) (l.take (k + 1)) := ⟨_, OwnC.list HTk.out.symm (HO4.out.upd hu5 (fun b hb e => by have := hge b hb; omega) (fun g hg e => by have := (HO4.out.block hg).1; omega)), hge⟩
     generalize x4.setCell ⟨w.heap.size + 2, 0, none⟩ (.slice a4 n4 c4) = x5 at *
     have HI5 := Lib.hid (show ∃ va vn vc, OwnF (w.heap.size + 3) x5 (.slice va vn vc) (l.take (k + 1)) ∧ x5.heap[w.heap.size + 2]? = some (.cells #[.slice va vn vc] 66 (0, 0)) from ⟨_, _, _, hO5, hJ5⟩)
     clear hO5 hJ5 hge hu5 HO4 cJ fJ hS4 hJ4 hS0 hS1 hS2 HS HO HJ HC Hv HI
     go_wp2_with fail
     go_roundw
     case rel => exact ⟨k + 1, by omega, by go_num, HI5.out, hR5⟩
     case measure => simp [intOf]; omega
    ·skip
     obtain rfl : j = 4 := by simpa using hj
     refine Or.inl ?_
     have hC2 := hQ.alloc _ (.cells #[.slice sa1 (rep l k).store.length sc1, .slice ra1 (rep l k).refs.length rc1, .int .i64 (rep l k).gen, .int .i64 (rep l k).phase, .slice oa1 (rep l k).pend.objects.length oc1, .slice ua1 (rep l k).pend.updates.length uc1, .bool (rep l k).pend.force] 28) hC1
     have hS2 := HS _ hC2
     have hrow := Lib.hid (reps_new x1 (rep l k) ⟨.slice sa1 (rep l k).store.length sc1, .slice ra1 (rep l k).refs.length rc1, .slice oa1 (rep l k).pend.objects.length oc1, .slice ua1 (rep l k).pend.updates.length uc1⟩ 28 x1.heap.size rfl (RepIs.lt Hv.out))
     go_simp
     refine wpAnyH_all (rs := [1]) (by kernel_rfl) (by simp) (fun j hj => ?_)
     obtain rfl : j = 1 := by simpa using hj
     refine Or.inl ?_
     have cJw := block_cell (j := 0) (HJ.out _ hC2) rfl
     go_simp
     clear cJw
     refine wpAnyH_all (rs := [5]) (by kernel_rfl) (by simp) (fun j hj => ?_)
     obtain rfl : j = 5 := by simpa using hj
     refine Or.inl ?_
     obtain ⟨v4, x4, hr4, hO4, hu4⟩ := append_reps 64 (HO.out _ hC2) hrow.out (fun b hb => ⟨by rcases hb with hb | hb; have := hb.2; simp; omega; simp; omega, fun e => by have := (Hob.out _ e).2; rcases hb with hb | hb; have := hb.1; omega; omega⟩) (by simp; omega) (by simp; omega)
     obtain ⟨a4, n4, c4, rfl⟩ := hO4.shape3
     refine wp_append_run (.tmp 14) (.tmp 17) 64 (by rfl) _ _ _ (by rfl) (by rfl) hr4 ?_
     simp only [Act.put, List.setIfInBounds_toArray, List.set_cons_zero, List.set_cons_succ]
     have hjo : ∀ b, (Value.slice va vn vc).ownBlock = some b → w.heap.size + 3 ≤ b ∧ b < wo.heap.size := fun b hb => Hob.out b hb
     have hS4 : (fun x : World => x.cell? ⟨wo.heap.size, 0, none⟩ = some (.slice (fr k).sa (rep l k).store.length (fr k).sc) ∧ x.cell? ⟨wo.heap.size, 1, none⟩ = some (.slice (fr k).ra (rep l k).refs.length (fr k).rc) ∧ x.cell? ⟨wo.heap.size, 2, none⟩ = some (.int .i64 (rep l k).gen) ∧ x.cell? ⟨wo.heap.size, 3, none⟩ = some (.int .i64 (rep l k).phase) ∧ x.cell? ⟨wo.heap.size, 4, none⟩ = some (.slice (fr k).oa (rep l k).pend.objects.length (fr k).oc) ∧ x.cell? ⟨wo.heap.size, 5, none⟩ = some (.slice (fr k).ua (rep l k).pend.updates.length (fr k).uc) ∧ x.cell? ⟨wo.heap.size, 6, none⟩ = some (.bool (rep l k).pend.force)) x4 := ⟨hu4.cell hS2.1 (fun e => absurd (hjo _ e).2 (Nat.lt_irrefl _)), hu4.cell hS2.2.1 (fun e => absurd (hjo _ e).2 (Nat.lt_irrefl _)), hu4.cell hS2.2.2.1 (fun e => absurd (hjo _ e).2 (Nat.lt_irrefl _)), hu4.cell hS2.2.2.2.1 (fun e => absurd (hjo _ e).2 (Nat.lt_irrefl _)), hu4.cell hS2.2.2.2.2.1 (fun e => absurd (hjo _ e).2 (Nat.lt_irrefl _)), hu4.cell hS2.2.2.2.2.2.1 (fun e => absurd (hjo _ e).2 (Nat.lt_irrefl _)), hu4.cell hS2.2.2.2.2.2.2 (fun e => absurd (hjo _ e).2 (Nat.lt_irrefl _))⟩
     have hJ4 := hu4.blk (HJ.out _ hC2) (fun e => by have := (hjo _ e).1; omega)
     have hR4 := HRu.out _ _ _ (hQR _ hC2) hu4 (fun b hb => by have := (hjo _ hb).1; omega)
     have HO4 := Lib.hid hO4
     refine ⟨hS4, ?_⟩
     clear hO4 hr4 hu4 hjo hrow
     refine wpAnyH_all (rs := [6]) (by kernel_rfl) (by simp) (fun j hj => ?_)
     obtain rfl : j = 6 := by simpa using hj
     refine Or.inl ?_
     go_simp
     first | refine ⟨hS4, ?_⟩ | skip
     refine wpAnyH_all (rs := [7]) (by kernel_rfl) (by simp) (fun j hj => ?_)
     obtain rfl : j = 7 := by simpa using hj
     refine Or.inl ?_
     have cJ := block_cell (j := 0) hJ4 rfl
     have fJ := block_free (j := 0) hJ4
     go_wp2_with fail
     first | refine ⟨hS4, by kernel_rfl, ?_⟩ | refine ⟨by kernel_rfl, ?_⟩
     have hu5 : Upd (fun b => b = w.heap.size + 2) x4 (x4.setCell ⟨w.heap.size + 2, 0, none⟩ (.slice a4 n4 c4)) := (Upd.refl (fun b => b = w.heap.size + 2) x4).setCell (p := ⟨w.heap.size + 2, 0, none⟩) (fun _ => rfl) _
     have hJ5 : (x4.setCell ⟨w.heap.size + 2, 0, none⟩ (.slice a4 n4 c4)).heap[w.heap.size + 2]? = some (.cells #[.slice a4 n4 c4] 66 (0, 0)) := block_setCell (j := 0) hJ4 (.slice a4 n4 c4)
     have hR5 := HRu.out _ _ _ hR4 hu5 (fun b hb => by omega)
     have hge : ∀ b, (F b ∨ ((x0.heap.size ≤ b ∧ b < x1.heap.size) ∨ b = x1.heap.size)) → w.heap.size + 3 ≤ b := fun b hb => by rcases hb with hb | hb | hb; exact HF.out b hb; omega; omega
     have hO5 : OwnF (w.heap.size + 3) _ (.slice a4 n4 c4) (l.take (k + 1)) := ⟨_, OwnC.list HTk.out.symm (HO4.out.upd hu5 (fun b hb e => by have := hge b hb; omega) (fun g hg e => by have := (HO4.out.block hg).1; omega)), hge⟩
     generalize x4.setCell ⟨w.heap.size + 2, 0, none⟩ (.slice a4 n4 c4) = x5 at *
     have HI5 := Lib.hid (show ∃ va vn vc, OwnF (w.heap.size + 3) x5 (.slice va vn vc) (l.take (k + 1)) ∧ x5.heap[w.heap.size + 2]? = some (.cells #[.slice va vn vc] 66 (0, 0)) from ⟨_, _, _, hO5, hJ5⟩)
     clear hO5 hJ5 hge hu5 HO4 cJ fJ hS4 hJ4 hS0 hS1 hS2 HS HO HJ HC Hv HI
     go_wp2_with fail
     go_roundw
     case rel => exact ⟨k + 1, by omega, by go_num, HI5.out, hR5⟩
     case measure => simp [intOf]; omega
  ·obtain rfl : k = n := by omega
   rw [HL.out] at hO
   have HOk := Lib.hid (And.intro hO hF)
   have hZ := HZ.out _ hRw
   have cJ := block_cell (j := 0) hJ rfl
   have cZ := block_cell (j := 0) hZ rfl
   have fZ := block_free (j := 0) hZ
   clear hO hF HI c0
   go_wp2_with fail
   have hu5 : Upd (fun b => b = w.heap.size + 1) wr (wr.setCell ⟨w.heap.size + 1, 0, none⟩ (.slice va vn vc)) := (Upd.refl (fun b => b = w.heap.size + 1) wr).setCell (p := ⟨w.heap.size + 1, 0, none⟩) (fun _ => rfl) _
   have hk5 : (wr.setCell ⟨w.heap.size + 1, 0, none⟩ (.slice va vn vc)).heap[w.heap.size + 1]? = some (.cells #[.slice va vn vc] 66 (0, 0)) := block_setCell (j := 0) hZ (.slice va vn vc)
   generalize wr.setCell ⟨w.heap.size + 1, 0, none⟩ (.slice va vn vc) = x5 at *
   have k0 := block_cell (j := 0) hk5 rfl
   refine bodyPost_ret (v := .agg #[.slice va vn vc]) (by simp [results, Tryz.results114, go_sem]; simp [k0] <;> rfl) rfl ?_
   refine ⟨_, rfl, ⟨F, (HOk.out.1.upd hu5 (fun b hb e => by have := HOk.out.2 b hb; omega) (fun g hg e => by have := (HOk.out.1.block hg).1; omega)).weaken (B' := w.heap.size) (fun _ h => h) (fun b hb => ⟨Nat.lt_of_lt_of_le (HOk.out.1.lt hb) hu5.size, HOk.out.1.own hb⟩) (by omega), fun b hb => by have := HOk.out.2 b hb; omega⟩, (hRb _ hRw).trans (hu5.below (B := w.heap.size) (hRb _ hRw).size (fun b hb => by omega))⟩
end Go.Proofs.YtjdgpgfiomnjkaaGreatDoor
namespace Go.Proofs.YtjdgpgfiomnjkaaGreatDoor
open Go.RowKit
set_option linter.unusedVariables false
set_option linter.unusedSimpArgs false
structure RightC (l : List Rep) : Prop where
 len : l.length = 3
 each : ∀ i, i < 3 → RightR (rep l i)
 refs : ∀ i j, i < 3 → j < 3 → (rep l i).gen = (rep l j).gen → (rep l i).refs = (rep l j).refs
 top : ∃ i j, i < j ∧ j < 3 ∧ (rep l i).gen = (rep l j).gen ∧ ∀ k, k < 3 → (rep l k).gen ≤ (rep l i).gen
theorem cnt_three (l : List Rep) (g : Int) : cnt l g 3 = (if (rep l 0).gen = g then 1 else 0) + (if (rep l 1).gen = g then 1 else 0) + (if (rep l 2).gen = g then 1 else 0) := by
 simp only [cnt]; omega
theorem oddB_false {x y : Rep} : oddB x y = false ↔ (x.gen = y.gen → x.refs = y.refs) := by
 unfold oddB
 by_cases h : x.gen = y.gen
 ·rw [show (x.gen == y.gen) = true by simpa using h, Bool.true_and, Bool.not_eq_false', sameRefs_iff]
  exact ⟨fun e _ => e, fun e => e h⟩
 ·rw [show (x.gen == y.gen) = false by simpa using h, Bool.false_and]
  exact ⟨fun _ e => absurd e h, fun _ => rfl⟩
theorem bad_odd {l : List Rep} {i k : Nat} (hi : i ≤ l.length) (h : cluBad l i = false) (hk : k < i) : oddB (rep l i) (rep l k) = false := by
 cases ho : oddB (rep l i) (rep l k)
 ·rfl
 ·rw [bad_at hi hk ho] at h; cases h
theorem clu_right {l : List Rep} : cluE l = 0 ↔ RightC l := by
 constructor
 ·intro h
  obtain ⟨hl, h1, h2, h3⟩ := cluE_zero h
  have hrf : ∀ i j, j < i → i < 3 → (rep l i).gen = (rep l j).gen → (rep l i).refs = (rep l j).refs := fun i j hij hi => oddB_false.1 (bad_odd (by omega) (h2 i hi) hij)
  refine ⟨hl, fun i hi => rep_right.1 (h1 i hi), fun i j hi hj e => ?_, ?_⟩
  ·rcases Nat.lt_trichotomy i j with h | h | h
   ·exact (hrf j i h hj e.symm).symm
   ·subst h; rfl
   ·exact hrf i j h hi e
  ·have hb := (best_inv l l.length).1
   rw [hl] at hb
   rw [many_cnt, hl, cnt_three] at h3
   have hbe : (bestTo l 3).1 = best l := by unfold best; rw [hl]
   rw [hbe] at hb
   generalize (rep l (best l)).gen = G at *
   have g0 := hb 0 (by omega)
   have g1 := hb 1 (by omega)
   have g2 := hb 2 (by omega)
   by_cases e0 : (rep l 0).gen = G
   ·by_cases e1 : (rep l 1).gen = G
    ·exact ⟨0, 1, by omega, by omega, by omega, fun k hk => by rw [e0]; exact hb k hk⟩
    ·by_cases e2 : (rep l 2).gen = G
     ·exact ⟨0, 2, by omega, by omega, by omega, fun k hk => by rw [e0]; exact hb k hk⟩
     ·rw [if_pos e0, if_neg e1, if_neg e2] at h3; omega
   ·by_cases e1 : (rep l 1).gen = G
    ·by_cases e2 : (rep l 2).gen = G
     ·exact ⟨1, 2, by omega, by omega, by omega, fun k hk => by rw [e1]; exact hb k hk⟩
     ·rw [if_neg e0, if_pos e1, if_neg e2] at h3; omega
    ·rw [if_neg e0, if_neg e1] at h3
     split at h3 <;> omega
 ·intro h
  have h0 : scan (fun i => repCheck (rep l i)) 3 = 0 := scan_of_zero fun k hk => rep_right.2 (h.each k hk)
  have h1 : scan (badE l) 3 = 0 := scan_of_zero fun k hk => by
   unfold badE
   rw [bad_not (by rw [h.len]; omega) (fun j hj => oddB_false.2 fun e => h.refs k j hk (by omega) e)]; rfl
  rw [cluE_few h.len h0 h1]
  refine if_neg ?_
  rw [many_cnt, h.len]
  obtain ⟨i, j, hij, hj, e, hm⟩ := h.top
  have hb := (best_inv l l.length).1
  rw [h.len] at hb
  have hbe : (bestTo l 3).1 = best l := by unfold best; rw [h.len]
  rw [hbe] at hb
  have hG : (rep l (best l)).gen = (rep l i).gen := by
   have hlt : best l < 3 := by have := best_lt (l := l) (by have := h.len; omega); have := h.len; omega
   have := hm _ hlt
   have := hb i (by omega)
   omega
  rw [hG, cnt_three]
  have hcase : (i = 0 ∧ j = 1) ∨ (i = 0 ∧ j = 2) ∨ (i = 1 ∧ j = 2) := by omega
  rcases hcase with ⟨rfl, rfl⟩ | ⟨rfl, rfl⟩ | ⟨rfl, rfl⟩
  ·rw [if_pos rfl, if_pos e.symm]; split <;> omega
  ·rw [if_pos rfl, if_pos e.symm]; split <;> omega
  ·rw [if_pos rfl, if_pos e.symm]; split <;> omega
def bitB (n : Int) (i : Nat) : Bool := n / 2 ^ i % 2 == 1
def voteAt (l : List Rep) (p : Psh) (up : Int) (i : Nat) : ByteArray := if bitB up i = true ∧ (rep l i).phase = 0 then voteR (rep l i) p else ByteArray.empty
def votesL (l : List Rep) (p : Psh) (up : Int) : List ByteArray := [voteAt l p up 0, voteAt l p up 1, voteAt l p up 2]
def commB (l : List Rep) (p : Psh) (up late : Int) (i : Nat) : Bool := (tallyR (votesL l p up)).2 && ((voteAt l p up i).toList == (tallyR (votesL l p up)).1.toList) && !bitB late i
def commN (l : List Rep) (p : Psh) (up late : Int) : Nat → Nat
 | 0 => 0
 | k + 1 => commN l p up late k + if commB l p up late k = true then 1 else 0
def pushE0 (p : Psh) (up late : Int) : Int := if checkPsh p ≠ 0 then checkPsh p else if 0 ≤ up ∧ up ≤ 7 ∧ 0 ≤ late ∧ late ≤ 7 then 0 else 3
def pushDo (l : List Rep) (p : Psh) (up late : Int) : Bool := decide (2 ≤ commN l p up late 3)
def fullE (l : List Rep) (p : Psh) (up late : Int) (i : Nat) : Int := if pushDo l p up late = true ∧ commB l p up late i = true ∧ (rep l i).gen = 999 then 2 else 0
def pushRE (l : List Rep) (p : Psh) (up late : Int) : Int := if pushE0 p up late ≠ 0 then pushE0 p up late else scan (fullE l p up late) 3
def pushAt (l : List Rep) (p : Psh) (up late : Int) (i : Nat) : Rep := if pushDo l p up late = true ∧ commB l p up late i = true then doneR (rep l i) p else rep l i
def pushRL (l : List Rep) (p : Psh) (up late : Int) : List Rep := if pushRE l p up late = 0 then [pushAt l p up late 0, pushAt l p up late 1, pushAt l p up late 2] else []
def pushRD (l : List Rep) (p : Psh) (up late : Int) : Bool := if pushRE l p up late = 0 then pushDo l p up late else false
def pushCE (l : List Rep) (p : Psh) (up late : Int) : Int := if cluE l ≠ 0 then cluE l else pushRE l p up late
def pushCL (l : List Rep) (p : Psh) (up late : Int) : List Rep := if cluE l = 0 then pushRL l p up late else []
def pushCD (l : List Rep) (p : Psh) (up late : Int) : Bool := if cluE l = 0 then pushRD l p up late else false
theorem reps_three {l : List Rep} (h : l.length = 3) : l = [rep l 0, rep l 1, rep l 2] := by
 match l, h with
 | [a, b, c], _ => rfl
theorem pushRL_at {l : List Rep} {p : Psh} {up late : Int} (h : pushRE l p up late = 0) {i : Nat} (hi : i < 3) : rep (pushRL l p up late) i = pushAt l p up late i := by
 unfold pushRL
 rw [if_pos h]
 have : i = 0 ∨ i = 1 ∨ i = 2 := by omega
 rcases this with rfl | rfl | rfl <;> rfl
theorem commN_three (l : List Rep) (p : Psh) (up late : Int) : commN l p up late 3 = (if commB l p up late 0 = true then 1 else 0) + (if commB l p up late 1 = true then 1 else 0) + (if commB l p up late 2 = true then 1 else 0) := by
 simp only [commN]; omega
def numOf (l : List UInt8) : Nat := l.foldl (fun a c => a * 10 + (c.toNat - 48)) 0
theorem num_dec : ∀ n, n < 1000 → numOf (Lib.decDigits n) = n := by
 have h : (List.range 1000).all (fun n => numOf (Lib.decDigits n) == n) = true := by decide +kernel
 intro n hn
 have := List.all_eq_true.1 h n (List.mem_range.2 hn)
 simpa using this
theorem dec_inj {a b : Int} (ha : 0 ≤ a ∧ a ≤ 999) (hb : 0 ≤ b ∧ b ≤ 999) (h : decB a = decB b) : a = b := by
 unfold decB at h
 have h1 : Lib.decDigits a.toNat = Lib.decDigits b.toNat := by
  have := congrArg (fun x : ByteArray => x.data.toList) h
  simpa using this
 have h2 := congrArg numOf h1
 rw [num_dec _ (by omega), num_dec _ (by omega)] at h2
 omega
theorem ba_left {a b c : ByteArray} (h : a ++ b = a ++ c) : b = c := by
 have := congrArg (fun x : ByteArray => x.data.toList) h
 simp only [ByteArray.data_append, Array.toList_append] at this
 exact ba_ext (List.append_cancel_left this)
theorem ba_right {a b c : ByteArray} (h : a ++ c = b ++ c) : a = b := by
 have := congrArg (fun x : ByteArray => x.data.toList) h
 simp only [ByteArray.data_append, Array.toList_append] at this
 exact ba_ext (List.append_cancel_right this)
theorem yes_not_no {r : Rep} {p : Psh} (h : yesB (voteR r p) = true) : tryE r p = 0 := by
 by_cases ht : tryE r p = 0
 ·exact ht
 ·unfold voteR at h
  rw [if_pos ht] at h
  unfold yesB at h
  rw [ByteArray.data_append, Array.toList_append] at h
  simp [noB] at h
theorem vote_gen {r s : Rep} {p : Psh} (hr : 0 ≤ r.gen ∧ r.gen ≤ 999) (hs : 0 ≤ s.gen ∧ s.gen ≤ 999) (h1 : tryE r p = 0) (h2 : tryE s p = 0) (h : voteR r p = voteR s p) : r.gen = s.gen := by
 unfold voteR at h
 rw [if_neg (by simpa using h1), if_neg (by simpa using h2)] at h
 exact dec_inj hr hs (ba_left (ba_right (ba_right h)))
structure Comm (l : List Rep) (p : Psh) (up late : Int) (i : Nat) : Prop where
 isUp : bitB up i = true
 idle : (rep l i).phase = 0
 onTime : bitB late i = false
 told : voteR (rep l i) p = (tallyR (votesL l p up)).1
 vote : tryE (rep l i) p = 0
theorem comm_of {l : List Rep} {p : Psh} {up late : Int} {i : Nat} (h : commB l p up late i = true) : Comm l p up late i := by
 unfold commB at h
 rw [Bool.and_eq_true, Bool.and_eq_true, text_eq, decide_eq_true_iff, Bool.not_eq_true'] at h
 obtain ⟨⟨h1, h2⟩, h3⟩ := h
 have hT : tallyR (votesL l p up) = ((tallyR (votesL l p up)).1, true) := Prod.ext rfl h1
 obtain ⟨_, _, hy⟩ := tally_iff.1 hT
 rw [← h2] at hy
 unfold voteAt at hy h2
 by_cases hc : bitB up i = true ∧ (rep l i).phase = 0
 ·rw [if_pos hc] at hy h2
  exact ⟨hc.1, hc.2, h3, h2, yes_not_no hy⟩
 ·rw [if_neg hc, yes_empty] at hy; cases hy
theorem comm_gen {l : List Rep} {p : Psh} {up late : Int} (hc : RightC l) {i j : Nat} (hi : i < 3) (hj : j < 3) (h1 : Comm l p up late i) (h2 : Comm l p up late j) : (rep l i).gen = (rep l j).gen :=
 vote_gen (hc.each i hi).gen (hc.each j hj).gen h1.vote h2.vote (h1.told.trans h2.told.symm)
theorem comm_top {l : List Rep} {p : Psh} {up late : Int} (hc : RightC l) (hd : pushDo l p up late = true) : ∃ i j, i < j ∧ j < 3 ∧ Comm l p up late i ∧ Comm l p up late j ∧ commB l p up late i = true ∧ commB l p up late j = true ∧ ∀ k, k < 3 → (rep l k).gen ≤ (rep l i).gen := by
 have hn : 2 ≤ commN l p up late 3 := by simpa [pushDo] using hd
 rw [commN_three] at hn
 have hex : ∃ i j, i < j ∧ j < 3 ∧ commB l p up late i = true ∧ commB l p up late j = true := by
  by_cases c0 : commB l p up late 0 = true
  ·by_cases c1 : commB l p up late 1 = true
   ·exact ⟨0, 1, by omega, by omega, c0, c1⟩
   ·by_cases c2 : commB l p up late 2 = true
    ·exact ⟨0, 2, by omega, by omega, c0, c2⟩
    ·rw [if_pos c0, if_neg c1, if_neg c2] at hn; omega
  ·by_cases c1 : commB l p up late 1 = true
   ·by_cases c2 : commB l p up late 2 = true
    ·exact ⟨1, 2, by omega, by omega, c1, c2⟩
    ·rw [if_neg c0, if_pos c1, if_neg c2] at hn; omega
   ·rw [if_neg c0, if_neg c1] at hn
    split at hn <;> omega
 obtain ⟨i, j, hij, hj, ci, cj⟩ := hex
 have Ci := comm_of ci
 have Cj := comm_of cj
 have hg := comm_gen hc (by omega) hj Ci Cj
 refine ⟨i, j, hij, hj, Ci, Cj, ci, cj, ?_⟩
 obtain ⟨a, b, hab, hb, e, hm⟩ := hc.top
 have : (rep l i).gen = (rep l a).gen := by
  have hx : i = a ∨ i = b ∨ j = a ∨ j = b := by omega
  rcases hx with rfl | rfl | rfl | rfl
  ·rfl
  ·exact e.symm
  ·exact hg
  ·rw [hg]; exact e.symm
 intro k hk
 rw [this]; exact hm k hk
theorem full_not {l : List Rep} {p : Psh} {up late : Int} (he : pushRE l p up late = 0) (hd : pushDo l p up late = true) {i : Nat} (hi : i < 3) (h : commB l p up late i = true) : (rep l i).gen ≠ 999 := by
 intro hg
 unfold pushRE at he
 split at he
 ·rename_i h1; exact absurd he h1
 ·have := scan_zero he i hi
  unfold fullE at this
  rw [if_pos ⟨hd, h, hg⟩] at this; cases this
theorem done_refs {r s : Rep} {p : Psh} (h1 : tryE r p = 0) (h2 : tryE s p = 0) (h : r.refs = s.refs) : tryM r p = tryM s p := by
 rw [(try_ok h1).moved, (try_ok h2).moved, h]
theorem pushAt_not {l : List Rep} {p : Psh} {up late : Int} {i : Nat} (h : ¬ (pushDo l p up late = true ∧ commB l p up late i = true)) : pushAt l p up late i = rep l i := by unfold pushAt; rw [if_neg h]
theorem pushAt_done {l : List Rep} {p : Psh} {up late : Int} {i : Nat} (hd : pushDo l p up late = true) (h : commB l p up late i = true) : pushAt l p up late i = doneR (rep l i) p := by unfold pushAt; rw [if_pos ⟨hd, h⟩]
theorem push_right {l : List Rep} {p : Psh} {up late : Int} (hc : RightC l) (he : pushRE l p up late = 0) : RightC (pushRL l p up late) := by
 have hat : ∀ i, i < 3 → rep (pushRL l p up late) i = pushAt l p up late i := fun i hi => pushRL_at he hi
 have hlen : (pushRL l p up late).length = 3 := by unfold pushRL; rw [if_pos he]; rfl
 cases hd : pushDo l p up late
 ·have e : ∀ i, i < 3 → rep (pushRL l p up late) i = rep l i := fun i hi => by rw [hat i hi]; exact pushAt_not (by simp [hd])
  refine ⟨hlen, fun i hi => by rw [e i hi]; exact hc.each i hi, fun i j hi hj => by rw [e i hi, e j hj]; exact hc.refs i j hi hj, ?_⟩
  obtain ⟨i, j, hij, hj, e1, hm⟩ := hc.top
  exact ⟨i, j, hij, hj, by rw [e i (by omega), e j hj]; exact e1, fun k hk => by rw [e k hk, e i (by omega)]; exact hm k hk⟩
 ·obtain ⟨i, j, hij, hj, Ci, Cj, ci, cj, hm⟩ := comm_top hc hd
  have hgen : ∀ k, k < 3 → (rep (pushRL l p up late) k).gen ≤ (rep l i).gen + 1 ∧ (commB l p up late k = true → (rep (pushRL l p up late) k).gen = (rep l i).gen + 1) ∧ (commB l p up late k = false → rep (pushRL l p up late) k = rep l k) := fun k hk => by
   rw [hat k hk]
   cases hb : commB l p up late k
   ·rw [pushAt_not (by simp [hb])]
    exact ⟨by have := hm k hk; omega, fun h => by (cases h), fun _ => rfl⟩
   ·rw [pushAt_done hd hb]
    have : (rep l k).gen = (rep l i).gen := comm_gen hc hk (by omega) (comm_of hb) Ci
    exact ⟨by show (rep l k).gen + 1 ≤ _; omega, fun _ => by show (rep l k).gen + 1 = _; omega, fun h => by (cases h)⟩
  refine ⟨hlen, fun k hk => ?_, fun a b ha hb e => ?_, ⟨i, j, hij, hj, ?_, fun k hk => ?_⟩⟩
  ·rw [hat k hk]
   cases hb : commB l p up late k
   ·rw [pushAt_not (by simp [hb])]; exact hc.each k hk
   ·rw [pushAt_done hd hb]
    exact done_right (hc.each k hk) (comm_of hb).vote (full_not he hd hk hb)
  ·cases ca : commB l p up late a <;> cases cb : commB l p up late b
   ·rw [(hgen a ha).2.2 ca, (hgen b hb).2.2 cb] at e ⊢; exact hc.refs a b ha hb e
   ·rw [(hgen a ha).2.2 ca, (hgen b hb).2.1 cb] at e; have := hm a ha; omega
   ·rw [(hgen a ha).2.1 ca, (hgen b hb).2.2 cb] at e; have := hm b hb; omega
   ·rw [hat a ha, hat b hb, pushAt_done hd ca, pushAt_done hd cb]
    exact done_refs (comm_of ca).vote (comm_of cb).vote (hc.refs a b ha hb (comm_gen hc ha hb (comm_of ca) (comm_of cb)))
  ·rw [(hgen i (by omega)).2.1 ci, (hgen j hj).2.1 cj]
  ·rw [(hgen i (by omega)).2.1 ci]; exact (hgen k hk).1
end Go.Proofs.YtjdgpgfiomnjkaaGreatDoor
