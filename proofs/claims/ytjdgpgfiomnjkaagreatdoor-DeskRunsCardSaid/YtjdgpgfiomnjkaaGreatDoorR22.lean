/- CluD: walks of CheckCluster, SameCluster, clusterIs. -/
import Derived.Test.YtjdgpgfiomnjkaaGreatDoorR21
set_option linter.all false
set_option maxHeartbeats 4000000
set_option maxRecDepth 100000
namespace Go.Proofs.YtjdgpgfiomnjkaaGreatDoor
open Go.RowKit
def EF (a b : List An) : Bool := decide (a.length = b.length) && (List.range a.length).all fun k => EX (Ai a k) (Ai b k)
theorem Ra {a b : List An} (h : a.length ≠ b.length) : EF a b = false := by unfold EF; simp [h]
theorem Ri {a b : List An} {k : Nat} (hk : k < a.length) (h : EX (Ai a k) (Ai b k) = false) : EF a b = false := by
 unfold EF
 have : ((List.range a.length).all fun k => EX (Ai a k) (Ai b k)) = false := by
  rw [List.all_eq_false]; exact ⟨k, List.mem_range.2 hk, by simp [h]⟩
 rw [this, Bool.and_false]
theorem Lg {a b : List An} (hl : a.length = b.length) (h : ∀ k, k < a.length → EX (Ai a k) (Ai b k) = true) : EF a b = true := by
 unfold EF
 rw [decide_eq_true hl, Bool.true_and, List.all_eq_true]
 exact fun k hk => h k (List.mem_range.1 hk)
theorem Dx (a b : List An) : EF a b = true ↔ a = b := by
 constructor
 ·intro h
  unfold EF at h
  rw [Bool.and_eq_true, decide_eq_true_eq, List.all_eq_true] at h
  refine List.ext_getElem h.1 fun i h1 h2 => ?_
  have := (Ls _ _).1 (h.2 i (List.mem_range.2 h1))
  rw [EK h1, EK h2] at this; exact this
 ·rintro rfl; exact Lg rfl fun k _ => (Ls _ _).2 rfl
theorem Ii (l m : List An) (v u : Value) (S S' : Nat → Prop) (w : World) (h : AE S w v l) (hm : AE S' w u m) :
  Calls Tryz.prog 51 #[.agg #[v], .agg #[u]] w fun e w' => e = .returned (.bool (EF l m)) ∧ Below w.heap.size w w' := by
 obtain ⟨a, n, cap, fr, HN, rfl, h1, h2, h3, h4, h5⟩ := h.open
 obtain ⟨a', n', cap', fr', HN', rfl, h1', h2', h3', h4', h5'⟩ := hm.open
 clear h hm
 obtain ⟨R, hR, hR1, HB0⟩ := AL w [.cells #[.slice a n cap] 66, .cells #[.slice a' n' cap'] 66]
 simp only [List.foldl] at hR1
 have hRb := hR.below
 have hRn := hR.next
 have hCg := BE hR
 have c0 := fun x (hx : In R x) => Aa (j := 0) (HB0 x hx 0 _ rfl) rfl
 have c1 := fun x (hx : In R x) => Aa (j := 0) (HB0 x hx 1 _ rfl) rfl
 simp only [Nat.add_zero] at c0
 clear HB0
 by_cases hl : n = n'
 case neg =>
  have HE := zh (Ra (a := l) (b := m) (by rw [← HN.out, ← HN'.out]; exact hl))
  have cc := c0 _ hR1
  have cd := c1 _ hR1
  have hq : ((n : Int) != (n' : Int)) = true := by simpa using (show (n : Int) ≠ (n' : Int) by omega)
  go_enter Tryz.func51, Tryz.ntmps51
  go_wp2_with fail
  go_ret
  exact ⟨by rw [HE.out]; rfl, hRb _ hR1⟩
 subst hl
 have Hall := zh (fun h => Lg (a := l) (b := m) (by rw [← HN.out, ← HN'.out]) h)
 have Hat := zh (fun k (hk : k < n) h => Ri (a := l) (b := m) (k := k) (by rw [← HN.out]; exact hk) h)
 have cc := c0 _ hR1
 have cd := c1 _ hR1
 go_enter Tryz.func51, Tryz.ntmps51
 go_wp2_with fail
 clear cc cd
 go_loopw [5] (fun i wr => ∃ k : Nat, k ≤ n ∧ i = .int .i64 k ∧ Hid (∀ j, j < k → EX (Ai l j) (Ai m j) = true) ∧ In R wr) (fun i _ => n - (intOf i).toNat)
 case atStart => exact ⟨0, by omega, rfl, fun j hj => absurd hj (by omega), hR1⟩
 obtain ⟨k, hk, rfl, Hs, hRw⟩ := hrel
 clear hR1
 have cc := c0 _ hRw
 by_cases hlt : k < n
 ·obtain ⟨b, off, rfl, hb, k0, k1, k2, k3, k4, k5, k6⟩ := h4 (by omega)
  obtain ⟨b', off', rfl, hb', k0', k1', k2', k3', k4', k5', k6'⟩ := h4' (by omega)
  have x0 : ∀ x, In R x → x.cell? ⟨b, off + k * 7, none⟩ = some (.slice (fr k).sa (Ai l k).store.length (fr k).sc) := fun x hx => k0 k x hlt (hRb x hx)
  have x1 : ∀ x, In R x → x.cell? ⟨b, off + k * 7 + 1, none⟩ = some (.slice (fr k).ra (Ai l k).refs.length (fr k).rc) := fun x hx => k1 k x hlt (hRb x hx)
  have x2 : ∀ x, In R x → x.cell? ⟨b, off + k * 7 + 2, none⟩ = some (.int .i64 (Ai l k).gen) := fun x hx => k2 k x hlt (hRb x hx)
  have x3 : ∀ x, In R x → x.cell? ⟨b, off + k * 7 + 3, none⟩ = some (.int .i64 (Ai l k).phase) := fun x hx => k3 k x hlt (hRb x hx)
  have x4 : ∀ x, In R x → x.cell? ⟨b, off + k * 7 + 4, none⟩ = some (.slice (fr k).oa (Ai l k).pend.objects.length (fr k).oc) := fun x hx => k4 k x hlt (hRb x hx)
  have x5 : ∀ x, In R x → x.cell? ⟨b, off + k * 7 + 5, none⟩ = some (.slice (fr k).ua (Ai l k).pend.updates.length (fr k).uc) := fun x hx => k5 k x hlt (hRb x hx)
  have x6 : ∀ x, In R x → x.cell? ⟨b, off + k * 7 + 6, none⟩ = some (.bool (Ai l k).pend.force) := fun x hx => k6 k x hlt (hRb x hx)
  have u0 : ∀ x, In R x → x.cell? ⟨b', off' + k * 7, none⟩ = some (Value.slice (fr' k).sa (Ai m k).store.length (fr' k).sc) := fun x hx => k0' k x hlt (hRb x hx)
  have u1 : ∀ x, In R x → x.cell? ⟨b', off' + k * 7 + 1, none⟩ = some (Value.slice (fr' k).ra (Ai m k).refs.length (fr' k).rc) := fun x hx => k1' k x hlt (hRb x hx)
  have u2 : ∀ x, In R x → x.cell? ⟨b', off' + k * 7 + 2, none⟩ = some (Value.int .i64 (Ai m k).gen) := fun x hx => k2' k x hlt (hRb x hx)
  have u3 : ∀ x, In R x → x.cell? ⟨b', off' + k * 7 + 3, none⟩ = some (Value.int .i64 (Ai m k).phase) := fun x hx => k3' k x hlt (hRb x hx)
  have u4 : ∀ x, In R x → x.cell? ⟨b', off' + k * 7 + 4, none⟩ = some (Value.slice (fr' k).oa (Ai m k).pend.objects.length (fr' k).oc) := fun x hx => k4' k x hlt (hRb x hx)
  have u5 : ∀ x, In R x → x.cell? ⟨b', off' + k * 7 + 5, none⟩ = some (Value.slice (fr' k).ua (Ai m k).pend.updates.length (fr' k).uc) := fun x hx => k5' k x hlt (hRb x hx)
  have u6 : ∀ x, In R x → x.cell? ⟨b', off' + k * 7 + 6, none⟩ = some (Value.bool (Ai m k).pend.force) := fun x hx => k6' k x hlt (hRb x hx)
  have HS := zh (fun x (hx : In R x) => LL (Ai l k) (Ai m k) _ _ _ _ _ _ _ _ _ _ x ((h5 k hlt).below (hRb _ hx)) ((h5' k hlt).below (hRb _ hx)))
  simp only [Bl] at HS
  clear h4 h5 h4' h5' k0 k1 k2 k3 k4 k5 k6 k0' k1' k2' k3' k4' k5' k6'
  have hi1 : (0 : Int) ≤ (k : Int) := by omega
  have hi2 : (k : Int) < (n : Int) := by omega
  cases he : EX (Ai l k) (Ai m k)
  ·rw [he] at HS
   have HE := zh (Hat.out k hlt he)
   go_wp2_with fail
   refine wp_region_quiet_below (by kernel_rfl) (by kernel_rfl) ?_
   repeat (first | go_big_quiet_skip | quiet_step (exact Calls.regrown_of (HS.out _ (hCg _ _ _ hRw))))
   refine wpQuiet_nil ?_
   intro _ hw'
   obtain ⟨⟨dq, osq⟩, hw''⟩ := hw'
   subst hw''
   have hR3 := hCg _ dq osq hRw
   generalize Go.Sort.grow (redrawn _ dq) osq = w3 at *
   go_wp2_with fail
   go_ret
   exact ⟨by rw [HE.out]; rfl, hRb _ hR3⟩
  ·rw [he] at HS
   have He := zh he
   go_wp2_with fail
   refine wp_region_quiet_below (by kernel_rfl) (by kernel_rfl) ?_
   repeat (first | go_big_quiet_skip | quiet_step (exact Calls.regrown_of (HS.out _ (hCg _ _ _ hRw))))
   refine wpQuiet_nil ?_
   intro _ hw'
   obtain ⟨⟨dq, osq⟩, hw''⟩ := hw'
   subst hw''
   have hR3 := hCg _ dq osq hRw
   generalize Go.Sort.grow (redrawn _ dq) osq = w3 at *
   go_wp2_with fail
   go_roundw
   case rel => exact ⟨k + 1, by omega, by go_num, Bw Hs.out He.out, hR3⟩
   case measure => simp [intOf]; omega
 ·obtain rfl : k = n := by omega
  have HE := zh (Hall.out (fun j hj => Hs.out j (by have := HN.out; omega)))
  go_wp2_with fail
  go_ret
  exact ⟨by rw [HE.out]; rfl, hRb _ hRw⟩
def Nk (l : List An) (e c : Int) (want : List An) : Bool := (e == c) && EF l (if c = 0 then want else [])
theorem NJ (l m : List An) (e c : Int) (v u : Value) (S S' : Nat → Prop) (w : World) (h : AE S w v l) (h2 : AE S' w u m) :
  Calls Tryz.prog 43 #[.agg #[v], .int .i64 e, .int .i64 c, .agg #[u]] w fun en w' => en = .returned (.bool (Nk l e c m)) ∧ Below w.heap.size w w' := by
 have HI := zh (show Nk l e c m = ((e == c) && EF l (if c = 0 then m else [])) from rfl)
 have H := zh h
 have G := zh h2
 obtain ⟨a, ac, rfl⟩ := h.vshape
 obtain ⟨a2, ac2, rfl⟩ := h2.vshape
 clear h h2
 by_cases hc : c = 0
 ·subst hc
  rw [if_pos rfl] at HI
  obtain ⟨Q, hQ, hQ1, HB0⟩ := AL w [.cells #[.slice a l.length ac] 66, .cells #[.slice a2 m.length ac2] 66]
  simp only [List.foldl] at hQ1
  have hQb := hQ.below
  have HC := zh (fun x (hx : In Q x) => Ii l m _ _ _ _ x (H.out.below (hQb _ hx)) (G.out.below (hQb _ hx)))
  have y0 := Aa (j := 0) (HB0 _ hQ1 0 _ rfl) rfl
  have z0 := Aa (j := 0) (HB0 _ hQ1 1 _ rfl) rfl
  simp only [Nat.add_zero] at y0 z0
  clear HB0
  cases ec : (e == 0)
  ·rw [ec, Bool.false_and] at HI
   go_enter Tryz.func43, Tryz.ntmps43
   go_wp2_with fail
   go_ret
   exact ⟨by rw [HI.out]; rfl, hQb _ hQ1⟩
  ·rw [ec, Bool.true_and] at HI
   rw [← HI.out] at HC
   go_enter Tryz.func43, Tryz.ntmps43
   go_wp2_with fail
   refine (HC.out _ hQ1).mono ?_
   rintro e w1 ⟨rfl, hb1⟩
   have hQ2 := hQ.next _ _ hQ1 hb1
   go_wp2_with fail
   go_ret
   exact ⟨rfl, hQb _ hQ2⟩
 rw [if_neg hc] at HI
 have hq : (c != 0) = true := by simpa using hc
 clear hc
 obtain ⟨Q, hQ, hQ1, HB0⟩ := AL w [.cells #[.slice a l.length ac] 66, .cells #[.slice none 0 0] 66]
 simp only [List.foldl] at hQ1
 have hQb := hQ.below
 have HC := zh (fun x (hx : In Q x) => Ii l [] _ _ _ _ x (H.out.below (hQb _ hx)) (AE.nil (fun _ => True) x 0 none (by omega)))
 have y0 := Aa (j := 0) (HB0 _ hQ1 0 _ rfl) rfl
 have z0 := Aa (j := 0) (HB0 _ hQ1 1 _ rfl) rfl
 simp only [Nat.add_zero] at y0 z0
 clear HB0
 cases ec : (e == c)
 ·rw [ec, Bool.false_and] at HI
  go_enter Tryz.func43, Tryz.ntmps43
  go_wp2_with fail
  go_ret
  exact ⟨by rw [HI.out]; rfl, hQb _ hQ1⟩
 ·rw [ec, Bool.true_and] at HI
  rw [← HI.out] at HC
  go_enter Tryz.func43, Tryz.ntmps43
  go_wp2_with fail
  refine (HC.out _ hQ1).mono ?_
  rintro e w1 ⟨rfl, hb1⟩
  have hQ2 := hQ.next _ _ hQ1 hb1
  go_wp2_with fail
  go_ret
  exact ⟨rfl, hQb _ hQ2⟩
theorem VS {cs : Nat → List Value} {ys : List Value} {sz n i : Nat} (h : ∀ j, j < n → (cs j).length = sz) (hi : i < n) :
  (AN cs n).take (i * sz) ++ ys ++ (AN cs n).drop (i * sz + sz) = AN (fun j => if j = i then ys else cs j) n := by
 obtain ⟨k, rfl⟩ : ∃ k, n = i + (1 + k) := ⟨n - i - 1, by omega⟩
 have hl : (AN cs i).length = i * sz := AU fun j hj => h j (by omega)
 have hl2 : (AN cs i ++ cs i).length = i * sz + sz := by rw [List.length_append, hl, h i (by omega)]
 have e1 : AN cs (i + (1 + k)) = AN cs i ++ (cs i ++ AN (fun j => cs (i + (1 + j))) k) := by rw [CZ, JW]; rfl
 rw [e1, show (AN cs i ++ (cs i ++ AN (fun j => cs (i + (1 + j))) k)).take (i * sz) = AN cs i by rw [← hl, List.take_left]]
 rw [← List.append_assoc (AN cs i), ← hl2, List.drop_left]
 rw [CZ, JW]
 have e2 : AN (fun j => if j = i then ys else cs j) i = AN cs i := AY fun j hj => by rw [if_neg (by omega)]
 have e3 : AN (fun j => (fun j => if i + j = i then ys else cs (i + j)) (1 + j)) k = AN (fun j => cs (i + (1 + j))) k := AY fun j hj => by
  show (if i + (1 + j) = i then ys else cs (i + (1 + j))) = cs (i + (1 + j))
  rw [if_neg (by omega)]
 rw [e2, e3]
 simp
theorem VX {α : Type} {A ys : List α} {a m n : Nat} (hy : ys.length = m) (h : a + m ≤ n) (hn : n ≤ A.length) : (A.take a ++ ys ++ A.drop (a + m)).take n = (A.take n).take a ++ ys ++ (A.take n).drop (a + m) := by
 obtain ⟨k, rfl⟩ : ∃ k, n = a + m + k := ⟨n - a - m, by omega⟩
 have h1 : (A.take a ++ ys).length = a + m := by rw [List.length_append, List.length_take, hy]; omega
 have e1 : (A.take a ++ ys ++ A.drop (a + m)).take (a + m + k) = A.take a ++ ys ++ (A.drop (a + m)).take k := by
  rw [← h1, List.take_length_add_append]
 rw [e1, List.take_take, Nat.min_eq_left (by omega), List.drop_take, show a + m + k - (a + m) = k by omega]
theorem Tryz.infoRep : (Tryz.prog.info? 28).map (fun i => (i.zero, i.size, i.bytes)) = some (some (.agg #[.slice none 0 0, .slice none 0 0, .int .i64 0, .int .i64 0, .slice none 0 0, .slice none 0 0, .bool false]), 7, 120) := by kernel_rfl
def BA (S : Nat → Prop) (B : Nat) (w : World) (v : Value) (l : List An) : Prop :=
 ∃ vs : Nat → RV, (∀ b, S b → b < w.heap.size ∧ v.ownBlock ≠ some b) ∧ w.ownsRow B 28 7 v l.length (AN (fun i => Bv (Ai l i) (vs i)) l.length) ∧
  ∀ i, i < l.length → MU S w (Ai l i) (vs i)
theorem BA.nil (S : Nat → Prop) (B : Nat) (w : World) (hS : ∀ b, S b → b < w.heap.size) : BA S B w (.slice none 0 0) [] :=
 ⟨fun _ => ⟨.nilFunc, .nilFunc, .nilFunc, .nilFunc⟩, fun b hb => ⟨hS b hb, by simp [Value.ownBlock]⟩, World.ownsRow_nil _ _ _ _, fun i hi => by simp at hi⟩
theorem BA.below {S : Nat → Prop} {B : Nat} {w w' : World} {v : Value} {l : List An} (h : BA S B w v l) (hb : Below w.heap.size w w') : BA S B w' v l := by
 obtain ⟨vs, h1, h2, h3⟩ := h
 exact ⟨vs, fun b hS => ⟨Nat.lt_of_lt_of_le (h1 b hS).1 hb.size, (h1 b hS).2⟩, AS h2 hb, fun i hi => (h3 i hi).below hb⟩
theorem BA.upd {S T : Nat → Prop} {B : Nat} {w w' : World} {v : Value} {l : List An} (h : BA S B w v l) (hu : Aq T w w') (hS : ∀ b, S b → ¬ T b) (hv : ∀ g, v.ownBlock = some g → ¬ T g) : BA S B w' v l := by
 obtain ⟨vs, h1, h2, h3⟩ := h
 exact ⟨vs, fun b hb => ⟨Nat.lt_of_lt_of_le (h1 b hb).1 hu.size, (h1 b hb).2⟩, CY h2 hu hv, fun i hi => (h3 i hi).upd hu hS⟩
theorem BA.shape {S : Nat → Prop} {B : Nat} {w : World} {v : Value} {l : List An} (h : BA S B w v l) : ∃ a c, v = .slice a l.length c := let ⟨_, _, h2, _⟩ := h; EO h2
theorem BA.block {S : Nat → Prop} {B : Nat} {w : World} {v : Value} {l : List An} (h : BA S B w v l) {g : Nat} (hg : v.ownBlock = some g) : B ≤ g ∧ g < w.heap.size := let ⟨_, _, h2, _⟩ := h; h2.lt g hg
theorem BA.lt {S : Nat → Prop} {B : Nat} {w : World} {v : Value} {l : List An} (h : BA S B w v l) {b : Nat} (hb : S b) : b < w.heap.size := let ⟨_, h1, _, _⟩ := h; (h1 b hb).1
theorem BA.reps {S S' : Nat → Prop} {B : Nat} {w : World} {v : Value} {l : List An} (h : BA S B w v l) (hl : l.length * 120 ≤ 140737488351232) (hS : ∀ b, S b → S' b) (hB : ∀ b, v.ownBlock = some b → S' b) : AE S' w v l := by
 obtain ⟨vs, h1, h2, h3⟩ := h
 refine ⟨vs, GJ h2 hB hl (fun i hi j u hu => ?_), fun i hi => (h3 i hi).weaken hS⟩
 exact CB (cs := fun i => Bv (Ai l i) (vs i)) (fun _ _ => rfl) i hi j u hu
theorem BA.any {S : Nat → Prop} {B : Nat} {w : World} {v : Value} {l : List An} (h : BA S B w v l) (hl : l.length * 120 ≤ 140737488351232) : AE (fun _ => True) w v l := h.reps hl (fun _ _ => trivial) (fun _ _ => trivial)
theorem BA.weaken {S S' : Nat → Prop} {B B' : Nat} {w : World} {v : Value} {l : List An} (h : BA S B w v l) (hS : ∀ b, S b → S' b) (hS' : ∀ b, S' b → b < w.heap.size ∧ v.ownBlock ≠ some b) (hB : B' ≤ B) : BA S' B' w v l := by
 obtain ⟨vs, h1, h2, h3⟩ := h
 exact ⟨vs, hS', Gt h2 hB, fun i hi => (h3 i hi).weaken hS⟩
theorem BA.own {S : Nat → Prop} {B : Nat} {w : World} {v : Value} {l : List An} (h : BA S B w v l) {b : Nat} (hb : S b) : v.ownBlock ≠ some b := let ⟨_, h1, _, _⟩ := h; (h1 b hb).2
theorem BA.list {S : Nat → Prop} {B : Nat} {w : World} {v : Value} {l l' : List An} (e : l' = l) (h : BA S B w v l') : BA S B w v l := e ▸ h
theorem BA.free {S : Nat → Prop} {B : Nat} {w : World} {l : List An} {g o n c : Nat} (h : BA S B w (.slice (some ⟨g, o, none⟩) n c) l) (j : Nat) : w.frozen? ⟨g, j, none⟩ = false := by
 obtain ⟨vs, h1, ⟨_, h2⟩, h3⟩ := h
 rcases h2 with ⟨e, _⟩ | ⟨g', cap, cur, e, _, hh, _⟩
 ·cases e
 ·cases e; exact Ab hh
theorem ME {l m : List An} {i : Nat} (h : i < l.length) : Ai (l ++ m) i = Ai l i := by
 unfold Ai at_; simp only [List.getD_eq_getElem?_getD, List.getElem?_append_left h]
theorem Nn {l m : List An} {i : Nat} : Ai (l ++ m) (l.length + i) = Ai m i := by
 unfold Ai at_; simp only [List.getD_eq_getElem?_getD]
 rw [List.getElem?_append_right (by omega), show l.length + i - l.length = i by omega]
theorem VE {S : Nat → Prop} {w : World} {r : An} {x : RV} (h : MU S w r x) : ∀ u ∈ Bv r x, u.oneCell' = true := by
 obtain ⟨y, rfl⟩ := h.ra
 intro u hu
 simp only [Bv, RA.rv, List.mem_cons, List.not_mem_nil, or_false] at hu
 rcases hu with rfl | rfl | rfl | rfl | rfl | rfl | rfl <;> rfl
theorem TA {S : Nat → Prop} {w : World} {a : Option Addr} {n cap : Nat} {l : List An} {lvs : Nat → RV} (h : Sl S w (.slice a n cap) 7 120 l.length (fun i => Bv (Ai l i) (lvs i))) (hn : 0 < l.length) :
  ∃ ad, a = some ad ∧ ∀ j u, (AN (fun i => Bv (Ai l i) (lvs i)) l.length)[j]? = some u → w.cell? (ad.add j) = some u := by
 obtain ⟨a', cap', hv, h1, h2, h3, h4⟩ := h
 cases hv
 obtain ⟨b, off, rfl, hb, hc⟩ := h4 hn
 refine ⟨_, rfl, fun j u hu => ?_⟩
 have hj : j < l.length * 7 := by
  rcases Nat.lt_or_ge j (l.length * 7) with h | h
  ·exact h
  ·rw [List.getElem?_eq_none (by rw [AU (sz := 7) fun _ _ => rfl]; exact h)] at hu; cases hu
 have hi' : j / 7 < l.length := by omega
 have hm : j % 7 < (Bv (Ai l (j / 7)) (lvs (j / 7))).length := by show j % 7 < 7; omega
 have e := CB (cs := fun i => Bv (Ai l i) (lvs i)) (sz := 7) (n := l.length) (fun _ _ => rfl) (j / 7) hi' (j % 7) _ (List.getElem?_eq_getElem hm)
 rw [show j / 7 * 7 + j % 7 = j by omega, hu] at e
 have := hc (j / 7) hi' (j % 7) u (by rw [List.getElem?_eq_getElem hm]; exact e.symm)
 rw [show (⟨b, off, none⟩ : Addr).add j = ⟨b, off + j, none⟩ by unfold Addr.add; split <;> simp_all]
 rw [show off + j = off + j / 7 * 7 + j % 7 by omega]; exact this
theorem Fb {B : Nat} {w : World} {v mv : Value} {l more : List An} {S S1 : Nat → Prop} (ty : TypeId) (hG : BA S1 B w v l) (h : AE S w mv more) (hS : ∀ b, S b → b < w.heap.size ∧ v.ownBlock ≠ some b)
  (hl : (l.length + more.length) * 120 ≤ 140737488351232) (hB : B ≤ w.heap.size) :
  ∃ v' x, (Builtin.append_ #[64, 64] ty #[v, mv]).run Tryz.prog w = .ok v' x ∧ BA (fun b => S1 b ∨ S b) B x v' (l ++ more) ∧ Aq (fun b => v.ownBlock = some b) w x := by
 obtain ⟨i0, hi, hz0, hz1, hz2⟩ := info_parts Tryz.infoRep
 have hG' := hG
 obtain ⟨lvs1, h1, hown, h3⟩ := hG
 obtain ⟨lvs, hsl, h5⟩ := h
 have hsl' := hsl
 obtain ⟨a, cap, rfl, hc1, hc2, hc3, _⟩ := hsl'
 by_cases h0 : more.length = 0
 ·obtain rfl : more = [] := List.length_eq_zero_iff.1 h0
  obtain ⟨base, sc, hv, hle⟩ : ∃ base sc, v = .slice base l.length sc ∧ l.length ≤ sc := by
   rcases hown.2 with ⟨rfl, hn⟩ | ⟨g, c, cur, rfl, _, _, hn, _⟩
   ·exact ⟨none, 0, by rw [hn], by omega⟩
   ·exact ⟨_, _, rfl, hn⟩
  subst hv
  refine ⟨_, w, run_append_nothing _ 64 64 ty 28 i0 Tryz.underlying64 hi base l.length sc hle _
   ⟨.inl ⟨_, Tryz.underlying64⟩, fun w' => by simp [Builtin.lenOf], by cases a <;> simp [Builtin.firstCells] <;> rfl, by cases a <;> simp [Builtin.firstCells] <;> rfl, by simp, by simp⟩, ?_, Aq.refl _ _⟩
  rw [List.append_nil]; exact hG'.weaken (fun _ h => .inl h) (fun b hb => by rcases hb with hb | hb; exact h1 b hb; exact hS b hb) (Nat.le_refl _)
 ·obtain ⟨ad, rfl, hnews⟩ := TA hsl (by omega)
  obtain ⟨g, c, x, hr, ho, hg, hor, hlt⟩ := run_append_lies (P := Tryz.prog) w 64 ty B 28 i0 _ 7 120 Tryz.underlying64 hi hz0 hz1 hz2 rfl (by omega) v l.length _ hown ad more.length cap
   (AN (fun i => Bv (Ai more i) (lvs i)) more.length) (AU fun _ _ => rfl) hnews (IP fun i hi => VE (h5 i hi)) (by omega) (by unfold maxLen; omega) (by omega) hB _ rfl
  have hu : Aq (fun b => v.ownBlock = some b) w x := Aq.grown (Aq.refl _ _) hg (fun k hk _ => hk)
  refine ⟨_, x, hr, ⟨fun i => if i < l.length then lvs1 i else lvs (i - l.length), fun b hb => ?_, ?_, fun i hi => ?_⟩, hu⟩
  ·have hb' : b < w.heap.size ∧ v.ownBlock ≠ some b := by rcases hb with hb | hb; exact h1 b hb; exact hS b hb
   refine ⟨Nat.lt_of_lt_of_le hb'.1 hu.size, fun e => ?_⟩
   have e' : g = b := by simpa [Value.ownBlock] using e
   rcases hor with h | h
   ·exact hb'.2 (by rw [h, e'])
   ·omega
  ·rw [List.length_append, CZ]
   have e1 : AN (fun i => Bv (Ai (l ++ more) i) (if i < l.length then lvs1 i else lvs (i - l.length))) l.length = AN (fun i => Bv (Ai l i) (lvs1 i)) l.length :=
    AY fun i hi => by rw [ME hi, if_pos hi]
   have e2 : AN (fun j => Bv (Ai (l ++ more) (l.length + j)) (if l.length + j < l.length then lvs1 (l.length + j) else lvs (l.length + j - l.length))) more.length = AN (fun i => Bv (Ai more i) (lvs i)) more.length :=
    AY fun i hi => by rw [Nn, if_neg (by omega), show l.length + i - l.length = i by omega]
   rw [e1, e2]; exact ho
  ·rw [List.length_append] at hi
   by_cases hlt : i < l.length
   ·simp only [ME hlt, if_pos hlt]
    exact ((h3 i hlt).upd hu (fun b hb e => (h1 b hb).2 e)).weaken fun _ h => .inl h
   ·obtain ⟨j, rfl⟩ : ∃ j, i = l.length + j := ⟨i - l.length, by omega⟩
    simp only [Nn, if_neg hlt, show l.length + j - l.length = j by omega]
    exact ((h5 j (by omega)).upd hu (fun b hb e => (hS b hb).2 e)).weaken fun _ h => .inr h
theorem Ec {l : List An} {i j : Nat} {r : An} (hj : j < l.length) : Ai (l.set i r) j = if j = i then r else Ai l j := by
 unfold Ai at_
 simp only [List.getD_eq_getElem?_getD, List.getElem?_set]
 by_cases e : i = j
 ·subst e; simp [hj]
 ·rw [if_neg e, if_neg (fun h => e h.symm)]
theorem BA.set {S S2 : Nat → Prop} {B : Nat} {w : World} {l : List An} {r : An} {x : RV} {g n c i : Nat} (h : BA S B w (.slice (some ⟨g, 0, none⟩) n c) l) (hi : i < l.length) (hr : MU S2 w r x)
  (h2 : ∀ b, S2 b → b < w.heap.size ∧ b ≠ g) :
  BA (fun b => S b ∨ S2 b) B (w.setCells g (i * 7) (Bv r x)) (.slice (some ⟨g, 0, none⟩) n c) (l.set i r) ∧ Aq (fun b => b = g) w (w.setCells g (i * 7) (Bv r x)) := by
 have hu := Es g (Bv r x) (i * 7) w
 refine ⟨?_, hu⟩
 obtain ⟨vs, h1, ⟨hxl, hown⟩, h3⟩ := h
 rcases hown with ⟨e, _⟩ | ⟨g', cap, cur, e, hBg, hg, hnc, hcm, hcs, hxs⟩
 ·cases e
 cases e
 have hcl : cur.toList.length = c * 7 := by simp [hcs]
 have hw := EW g 28 (Bv r x) (i * 7) cur w hg (by rw [hcs]; show i * 7 + 7 ≤ _; omega)
 refine ⟨fun j => if j = i then x else vs j, fun b hb => ?_, ⟨?_, .inr ⟨g, c, _, by rw [List.length_set], hBg, hw, by rw [List.length_set]; exact hnc, hcm, ?_, ?_⟩⟩, fun j hj => ?_⟩
 ·rcases hb with hb | hb
  ·exact ⟨Nat.lt_of_lt_of_le (h1 b hb).1 hu.size, (h1 b hb).2⟩
  ·exact ⟨Nat.lt_of_lt_of_le (h2 b hb).1 hu.size, fun e => (h2 b hb).2 (by simpa [Value.ownBlock, eq_comm] using e)⟩
 ·exact AU fun _ _ => rfl
 ·simp only [List.size_toArray, List.length_append, List.length_take, List.length_drop, hcl]; show min (i * 7) (c * 7) + 7 + (c * 7 - (i * 7 + 7)) = c * 7; omega
 ·rw [List.length_set]
  have e1 : AN (fun j => Bv (Ai (l.set i r) j) (if j = i then x else vs j)) l.length = AN (fun j => if j = i then Bv r x else Bv (Ai l j) (vs j)) l.length :=
   AY fun j hj => by
    rw [Ec hj]
    by_cases e : j = i
    ·rw [if_pos e, if_pos e, if_pos e]
    ·rw [if_neg e, if_neg e, if_neg e]
  rw [e1, ← VS (cs := fun j => Bv (Ai l j) (vs j)) (ys := Bv r x) (sz := 7) (n := l.length) (i := i) (fun _ _ => rfl) hi, ← hxs]
  simp only [List.toList_toArray]
  exact VX (ys := Bv r x) (A := cur.toList) (a := i * 7) (m := 7) (n := l.length * 7) rfl (by omega) (by rw [hcl]; omega)
 ·rw [List.length_set] at hj
  rw [Ec hj]
  by_cases e : j = i
  ·subst e
   simp only [if_true]
   exact (AI.upd hr hu (fun b hb e => (h2 b hb).2 e)).weaken fun _ h => .inr h
  ·simp only [if_neg e]
   exact (AI.upd (h3 j hj) hu (fun b hb e => (h1 b hb).2 (by subst e; rfl))).weaken fun _ h => .inl h
theorem MM {S : Nat → Prop} (w : World) (r : An) (x : RV) (t : TypeId) (N : Nat) (hN : N = w.heap.size) (h : MU S w r x) :
  AE (fun b => S b ∨ b = N) (w.alloc (.cells (Bv r x).toArray t)) (.slice (some ⟨N, 0, none⟩) 1 1) [r] := by
 subst hN
 refine ⟨fun _ => x, ⟨some ⟨w.heap.size, 0, none⟩, 1, rfl, Nat.le_refl _, by omega, by simp, fun _ => ⟨w.heap.size, 0, rfl, .inr rfl, fun i hi j u hu => ?_⟩⟩, fun i hi => ?_⟩
 ·obtain rfl : i = 0 := by simp at hi; omega
  refine Aa (heap_alloc_new w _) ?_
  have hu' : (Bv r x)[j]? = some u := hu
  simpa using hu'
 ·obtain rfl : i = 0 := by simp at hi; omega
  exact (AI.below h bal).weaken fun _ h => .inl h
theorem BA.shape3 {S : Nat → Prop} {B : Nat} {w : World} {v : Value} {l : List An} (h : BA S B w v l) : ∃ a n c, v = .slice a n c := let ⟨a, c, e⟩ := h.shape; ⟨a, _, c, e⟩
def Ef (B : Nat) (w : World) (v : Value) (l : List An) : Prop := ∃ F : Nat → Prop, BA F B w v l ∧ ∀ b, F b → B ≤ b
theorem NN {l : List An} {k : Nat} (h : k < l.length) : l.take (k + 1) = l.take k ++ [Ai l k] := by
 rw [List.take_succ_eq_append_getElem h, EK h]
theorem MH (l : List An) (v : Value) (S : Nat → Prop) (w : World) (h : AE S w v l) :
  Calls Tryz.prog 114 #[.agg #[v]] w fun e w' => ∃ v', e = .returned (.agg #[v']) ∧ Ef w.heap.size w' v' l ∧ Below w.heap.size w w' := by
 obtain ⟨a, n, cap, fr, HN, rfl, h1, h2, h3, h4, h5⟩ := h.open
 clear h
 have HL := zh (show l.take n = l by rw [HN.out]; exact List.take_length)
 have HT := zh (fun k (hk : k < n) => NN (l := l) (k := k) (by rw [← HN.out]; exact hk))
 have HTl := zh (fun k => show (l.take k).length ≤ k by rw [List.length_take]; omega)
 obtain ⟨w3, hw3⟩ : ∃ w3, w3 = ((w.alloc (.cells #[.slice a n cap] 66)).alloc (.cells #[.slice none 0 0] 66)).alloc (.cells #[.slice none 0 0] 66) := ⟨_, rfl⟩
 have hs3 : w3.heap.size = w.heap.size + 3 := by rw [hw3]; simp
 have hb3 : Below w.heap.size w w3 := by rw [hw3]; exact FS [_, _, _] w
 have hcl3 := ID w w3 (w.heap.size + 2) (by omega) (by omega) hb3
 have g0 : w3.heap[w.heap.size]? = some (.cells #[.slice a n cap] 66 (0, 0)) := by rw [hw3]; exact Gz [_, _, _] w 0 _ rfl
 have g1 : w3.heap[w.heap.size + 1]? = some (.cells #[.slice none 0 0] 66 (0, 0)) := by rw [hw3]; exact Gz [_, _, _] w 1 _ rfl
 have g2 : w3.heap[w.heap.size + 2]? = some (.cells #[.slice none 0 0] 66 (0, 0)) := by rw [hw3]; exact Gz [_, _, _] w 2 _ rfl
 obtain ⟨R, hR⟩ : ∃ R : World → Prop, R = fun x => Below (w.heap.size + 2) w3 x := ⟨_, rfl⟩
 rw [← hR] at hcl3
 have hRb := hcl3.below
 have hRn := hcl3.next
 have hR3 : In R w3 := by rw [hR]; exact Below.refl _ _
 have HRu := zh (fun x y (T : Nat → Prop) (hx : In R x) (hu : Aq T x y) (hT : ∀ b, T b → w.heap.size + 2 ≤ b) => show In R y by rw [hR] at hx ⊢; exact Below.trans (hx : Below _ _ _) (hu.below (by have := Below.size (hx : Below _ _ _); omega) hT))
 have HRs := zh (fun x (hx : In R x) => show w.heap.size + 3 ≤ x.heap.size by rw [hR] at hx; have := Below.size (hx : Below _ _ _); omega)
 have c0 : ∀ x, In R x → x.cell? ⟨w.heap.size, 0, none⟩ = some (.slice a n cap) := fun x hx => by rw [hR] at hx; exact Aa (j := 0) ((Below.block (hx : Below _ _ _) _ (by omega)).trans g0) rfl
 have HZ := zh (fun x (hx : In R x) => show x.heap[w.heap.size + 1]? = some (.cells #[.slice none 0 0] 66 (0, 0)) by rw [hR] at hx; exact (Below.block (hx : Below _ _ _) _ (by omega)).trans g1)
 have cc := c0 _ hR3
 have HI0 := zh (show ∃ va vn vc, Ef (w.heap.size + 3) w3 (.slice va vn vc) (l.take 0) ∧ w3.heap[w.heap.size + 2]? = some (.cells #[.slice va vn vc] 66 (0, 0)) from ⟨_, _, _, ⟨fun _ => False, BA.nil _ _ _ (fun _ h => h.elim), fun _ h => h.elim⟩, g2⟩)
 clear hR hcl3 g0 g1 g2 hs3 hb3
 have Hw3 := zh hw3
 rw [hw3] at cc
 clear hw3
 go_enter Tryz.func114, Tryz.ntmps114
 go_wp2_with fail
 rw [← Hw3.out]
 clear cc
 go_loopw [9] (fun i wr => ∃ k : Nat, k ≤ n ∧ i = .int .i64 k ∧ Hid (∃ va vn vc, Ef (w.heap.size + 3) wr (.slice va vn vc) (l.take k) ∧ wr.heap[w.heap.size + 2]? = some (.cells #[.slice va vn vc] 66 (0, 0))) ∧ In R wr) (fun i _ => n - (intOf i).toNat)
 case atStart => exact ⟨0, by omega, rfl, HI0.out, hR3⟩
 obtain ⟨k, hk, rfl, HI, hRw⟩ := hrel
 clear hR3 HI0
 obtain ⟨va, vn, vc, ⟨F, hO, hF⟩, hJ⟩ := HI.out
 have hsw := HRs.out _ hRw
 by_cases hlt : k < n
 ·obtain ⟨b, off, rfl, hb, k0, k1, k2, k3, k4, k5, k6⟩ := h4 (by omega)
  have x0 := k0 k wr hlt (hRb _ hRw)
  have x1 := k1 k wr hlt (hRb _ hRw)
  have x2 := k2 k wr hlt (hRb _ hRw)
  have x3 := k3 k wr hlt (hRb _ hRw)
  have x4 := k4 k wr hlt (hRb _ hRw)
  have x5 := k5 k wr hlt (hRb _ hRw)
  have x6 := k6 k wr hlt (hRb _ hRw)
  obtain ⟨Q, hQ, hQ1, hy⟩ := Ce wr (c7 (Ai l k) (fr k).sa (fr k).sc (fr k).ra (fr k).rc (fr k).oa (fr k).oc (fr k).ua (fr k).uc) 28
  have hQb := hQ.below
  have hQn := hQ.next
  have hQR : ∀ x, In Q x → In R x := fun x hx => hRn _ _ hRw (hQb x hx)
  have HS : ∀ x, In Q x → (fun x : World => x.cell? ⟨wr.heap.size, 0, none⟩ = some (.slice (fr k).sa (Ai l k).store.length (fr k).sc) ∧ x.cell? ⟨wr.heap.size, 1, none⟩ = some (.slice (fr k).ra (Ai l k).refs.length (fr k).rc) ∧ x.cell? ⟨wr.heap.size, 2, none⟩ = some (.int .i64 (Ai l k).gen) ∧ x.cell? ⟨wr.heap.size, 3, none⟩ = some (.int .i64 (Ai l k).phase) ∧ x.cell? ⟨wr.heap.size, 4, none⟩ = some (.slice (fr k).oa (Ai l k).pend.objects.length (fr k).oc) ∧ x.cell? ⟨wr.heap.size, 5, none⟩ = some (.slice (fr k).ua (Ai l k).pend.updates.length (fr k).uc) ∧ x.cell? ⟨wr.heap.size, 6, none⟩ = some (.bool (Ai l k).pend.force)) x := fun x hx => ⟨hy 0 _ rfl x hx, hy 1 _ rfl x hx, hy 2 _ rfl x hx, hy 3 _ rfl x hx, hy 4 _ rfl x hx, hy 5 _ rfl x hx, hy 6 _ rfl x hx⟩
  have HO := zh (fun x (hx : In Q x) => hO.below (hQb _ hx))
  have HJ := zh (fun x (hx : In Q x) => ((hQb _ hx).block _ (show w.heap.size + 2 < wr.heap.size by omega)).trans hJ)
  have HC := zh (fun x (hx : In Q x) => Ms (Ai l k) _ _ _ _ _ x ((h5 k hlt).below (hRb _ (hQR _ hx))))
  simp only [Bl] at HC
  have hi1 : (0 : Int) ≤ (k : Int) := by omega
  have hi2 : (k : Int) < (n : Int) := by omega
  have Hob := zh (fun g (hg : (Value.slice va vn vc).ownBlock = some g) => hO.block hg)
  have HF := zh hF
  have hlk := HTl.out k
  have HTk := zh (HT.out k hlt)
  clear hy h4 h5 hO hJ hF HT HL c0 k0 k1 k2 k3 k4 k5 k6
  obtain ⟨wo, rfl⟩ : ∃ wo : World, wo = wr := ⟨_, rfl⟩
  go_wp2_with fail
  refine wp_region_held (S := (fun x : World => x.cell? ⟨wo.heap.size, 0, none⟩ = some (.slice (fr k).sa (Ai l k).store.length (fr k).sc) ∧ x.cell? ⟨wo.heap.size, 1, none⟩ = some (.slice (fr k).ra (Ai l k).refs.length (fr k).rc) ∧ x.cell? ⟨wo.heap.size, 2, none⟩ = some (.int .i64 (Ai l k).gen) ∧ x.cell? ⟨wo.heap.size, 3, none⟩ = some (.int .i64 (Ai l k).phase) ∧ x.cell? ⟨wo.heap.size, 4, none⟩ = some (.slice (fr k).oa (Ai l k).pend.objects.length (fr k).oc) ∧ x.cell? ⟨wo.heap.size, 5, none⟩ = some (.slice (fr k).ua (Ai l k).pend.updates.length (fr k).uc) ∧ x.cell? ⟨wo.heap.size, 6, none⟩ = some (.bool (Ai l k).pend.force))) (by kernel_rfl) ?_
  change wpAnyH _ _ _ _ _ _ _ _ (World.drew _)
  have hC0 := hQ.drew _ hQ1
  generalize (wo.alloc _).drew = x0 at hC0 ⊢
  clear hQ1
  have hS0 := HS _ hC0
  refine tk 0 (.pointer (some ⟨w.heap.size + 2, 0, none⟩)) (fun w hSw => ?_) hS0 ?_
  ·go_simp
  simp only [tkS]
  refine tk 2 (.agg (c7 (Ai l k) (fr k).sa (fr k).sc (fr k).ra (fr k).rc (fr k).oa (fr k).oc (fr k).ua (fr k).uc)) (fun w hSw => ?_) hS0 ?_
  ·obtain ⟨y0, y1, y2, y3, y4, y5, y6⟩ := hSw; go_simp
  simp only [tkS]
  refine al2 1 3 ?_ ?_
  ·skip
   refine Or.inl ?_
   have cJw := Aa (j := 0) (HJ.out _ hC0) rfl
   go_simp
   clear cJw
   refine al1 3 ?_
   refine Or.inl ?_
   go_wp2_with fail
   refine (HC.out _ hC0).mono ?_
   rintro e x1 ⟨sv1, rv1, ov1, uv1, rfl, hv, hb1⟩
   have hC1 := hQn _ _ hC0 hb1
   have hs0 := (hQb _ hC0).size
   have hs1 := hb1.size
   have Hv := zh hv
   obtain ⟨Bm, Bs, rfl⟩ := hv.store.vshape
   obtain ⟨⟨ra1, rc1⟩, rfl⟩ := hv.refs.shape
   obtain ⟨oa1, oc1, rfl⟩ := hv.objs.vshape
   obtain ⟨⟨ua1, uc1⟩, rfl⟩ := hv.upds.shape
   have hS1 := HS _ hC1
   clear hv hb1
   simp only [Bl]
   go_simp
   refine al1 4 ?_
   refine Or.inl ?_
   have hC2 := hQ.alloc _ (.cells (c7 (Ai l k) Bm Bs ra1 rc1 oa1 oc1 ua1 uc1) 28) hC1
   have hS2 := HS _ hC2
   have hrow := zh (MM x1 (Ai l k) ⟨.slice Bm (Ai l k).store.length Bs, .slice ra1 (Ai l k).refs.length rc1, .slice oa1 (Ai l k).pend.objects.length oc1, .slice ua1 (Ai l k).pend.updates.length uc1⟩ 28 x1.heap.size rfl (AI.lt Hv.out))
   go_simp
   refine al1 5 ?_
   refine Or.inl ?_
   obtain ⟨v4, x4, hr4, hO4, hu4⟩ := Fb 64 (HO.out _ hC2) hrow.out (fun b hb => ⟨by rcases hb with hb | hb; have := hb.2; simp; omega; simp; omega, fun e => by have := (Hob.out _ e).2; rcases hb with hb | hb; have := hb.1; omega; omega⟩) (by simp; omega) (by simp; omega)
   obtain ⟨a4, n4, c4, rfl⟩ := hO4.shape3
   refine Cx (.tmp 14) (.tmp 17) 64 (by rfl) _ _ _ (by rfl) (by rfl) hr4 ?_
   simp only [tkS]
   have hjo : ∀ b, (Value.slice va vn vc).ownBlock = some b → w.heap.size + 3 ≤ b ∧ b < wo.heap.size := fun b hb => Hob.out b hb
   have hS4 : (fun x : World => x.cell? ⟨wo.heap.size, 0, none⟩ = some (.slice (fr k).sa (Ai l k).store.length (fr k).sc) ∧ x.cell? ⟨wo.heap.size, 1, none⟩ = some (.slice (fr k).ra (Ai l k).refs.length (fr k).rc) ∧ x.cell? ⟨wo.heap.size, 2, none⟩ = some (.int .i64 (Ai l k).gen) ∧ x.cell? ⟨wo.heap.size, 3, none⟩ = some (.int .i64 (Ai l k).phase) ∧ x.cell? ⟨wo.heap.size, 4, none⟩ = some (.slice (fr k).oa (Ai l k).pend.objects.length (fr k).oc) ∧ x.cell? ⟨wo.heap.size, 5, none⟩ = some (.slice (fr k).ua (Ai l k).pend.updates.length (fr k).uc) ∧ x.cell? ⟨wo.heap.size, 6, none⟩ = some (.bool (Ai l k).pend.force)) x4 := ⟨hu4.cell hS2.1 (fun e => absurd (hjo _ e).2 (Nat.lt_irrefl _)), hu4.cell hS2.2.1 (fun e => absurd (hjo _ e).2 (Nat.lt_irrefl _)), hu4.cell hS2.2.2.1 (fun e => absurd (hjo _ e).2 (Nat.lt_irrefl _)), hu4.cell hS2.2.2.2.1 (fun e => absurd (hjo _ e).2 (Nat.lt_irrefl _)), hu4.cell hS2.2.2.2.2.1 (fun e => absurd (hjo _ e).2 (Nat.lt_irrefl _)), hu4.cell hS2.2.2.2.2.2.1 (fun e => absurd (hjo _ e).2 (Nat.lt_irrefl _)), hu4.cell hS2.2.2.2.2.2.2 (fun e => absurd (hjo _ e).2 (Nat.lt_irrefl _))⟩
   have hJ4 := hu4.blk (HJ.out _ hC2) (fun e => by have := (hjo _ e).1; omega)
   have hR4 := HRu.out _ _ _ (hQR _ hC2) hu4 (fun b hb => by have := (hjo _ hb).1; omega)
   have HO4 := zh hO4
   refine ⟨hS4, ?_⟩
   clear hO4 hr4 hu4 hjo hrow
   refine al1 6 ?_
   refine Or.inl ?_
   go_simp
   first | refine ⟨hS4, ?_⟩ | skip
   refine al1 7 ?_
   refine Or.inl ?_
   have cJ := Aa (j := 0) hJ4 rfl
   have fJ := Ab (j := 0) hJ4
   go_wp2_with fail
   first | refine ⟨hS4, by kernel_rfl, ?_⟩ | refine ⟨by kernel_rfl, ?_⟩
   have hu5 : Aq (fun b => b = w.heap.size + 2) x4 (x4.setCell ⟨w.heap.size + 2, 0, none⟩ (.slice a4 n4 c4)) := (Aq.refl (fun b => b = w.heap.size + 2) x4).setCell (p := ⟨w.heap.size + 2, 0, none⟩) (fun _ => rfl) _
   have hJ5 : (x4.setCell ⟨w.heap.size + 2, 0, none⟩ (.slice a4 n4 c4)).heap[w.heap.size + 2]? = some (.cells #[.slice a4 n4 c4] 66 (0, 0)) := Ad (j := 0) hJ4 (.slice a4 n4 c4)
   have hR5 := HRu.out _ _ _ hR4 hu5 (fun b hb => by omega)
   have hge : ∀ b, (F b ∨ ((x0.heap.size ≤ b ∧ b < x1.heap.size) ∨ b = x1.heap.size)) → w.heap.size + 3 ≤ b := fun b hb => by rcases hb with hb | hb | hb; exact HF.out b hb; omega; omega
   have hO5 : Ef (w.heap.size + 3) _ (.slice a4 n4 c4) (l.take (k + 1)) := ⟨_, BA.list HTk.out.symm (HO4.out.upd hu5 (fun b hb e => by have := hge b hb; omega) (fun g hg e => by have := (HO4.out.block hg).1; omega)), hge⟩
   generalize x4.setCell ⟨w.heap.size + 2, 0, none⟩ (.slice a4 n4 c4) = x5 at *
   have HI5 := zh (show ∃ va vn vc, Ef (w.heap.size + 3) x5 (.slice va vn vc) (l.take (k + 1)) ∧ x5.heap[w.heap.size + 2]? = some (.cells #[.slice va vn vc] 66 (0, 0)) from ⟨_, _, _, hO5, hJ5⟩)
   clear hO5 hJ5 hge hu5 HO4 cJ fJ hS4 hJ4 hS0 hS1 hS2 HS HO HJ HC Hv HI
   go_wp2_with fail
   go_roundw
   case rel => exact ⟨k + 1, by omega, by go_num, HI5.out, hR5⟩
   case measure => simp [intOf]; omega
  refine Or.inl ?_
  go_wp2_with fail
  refine (HC.out _ hC0).mono ?_
  rintro e x1 ⟨sv1, rv1, ov1, uv1, rfl, hv, hb1⟩
  have hC1 := hQn _ _ hC0 hb1
  have hs0 := (hQb _ hC0).size
  have hs1 := hb1.size
  have Hv := zh hv
  obtain ⟨Bm, Bs, rfl⟩ := hv.store.vshape
  obtain ⟨⟨ra1, rc1⟩, rfl⟩ := hv.refs.shape
  obtain ⟨oa1, oc1, rfl⟩ := hv.objs.vshape
  obtain ⟨⟨ua1, uc1⟩, rfl⟩ := hv.upds.shape
  have hS1 := HS _ hC1
  clear hv hb1
  simp only [Bl]
  go_simp
  refine al2 1 4 ?_ ?_
  ·skip
   refine Or.inl ?_
   have cJw := Aa (j := 0) (HJ.out _ hC1) rfl
   go_simp
   clear cJw
   refine al1 4 ?_
   refine Or.inl ?_
   have hC2 := hQ.alloc _ (.cells (c7 (Ai l k) Bm Bs ra1 rc1 oa1 oc1 ua1 uc1) 28) hC1
   have hS2 := HS _ hC2
   have hrow := zh (MM x1 (Ai l k) ⟨.slice Bm (Ai l k).store.length Bs, .slice ra1 (Ai l k).refs.length rc1, .slice oa1 (Ai l k).pend.objects.length oc1, .slice ua1 (Ai l k).pend.updates.length uc1⟩ 28 x1.heap.size rfl (AI.lt Hv.out))
   go_simp
   refine al1 5 ?_
   refine Or.inl ?_
   obtain ⟨v4, x4, hr4, hO4, hu4⟩ := Fb 64 (HO.out _ hC2) hrow.out (fun b hb => ⟨by rcases hb with hb | hb; have := hb.2; simp; omega; simp; omega, fun e => by have := (Hob.out _ e).2; rcases hb with hb | hb; have := hb.1; omega; omega⟩) (by simp; omega) (by simp; omega)
   obtain ⟨a4, n4, c4, rfl⟩ := hO4.shape3
   refine Cx (.tmp 14) (.tmp 17) 64 (by rfl) _ _ _ (by rfl) (by rfl) hr4 ?_
   simp only [tkS]
   have hjo : ∀ b, (Value.slice va vn vc).ownBlock = some b → w.heap.size + 3 ≤ b ∧ b < wo.heap.size := fun b hb => Hob.out b hb
   have hS4 : (fun x : World => x.cell? ⟨wo.heap.size, 0, none⟩ = some (.slice (fr k).sa (Ai l k).store.length (fr k).sc) ∧ x.cell? ⟨wo.heap.size, 1, none⟩ = some (.slice (fr k).ra (Ai l k).refs.length (fr k).rc) ∧ x.cell? ⟨wo.heap.size, 2, none⟩ = some (.int .i64 (Ai l k).gen) ∧ x.cell? ⟨wo.heap.size, 3, none⟩ = some (.int .i64 (Ai l k).phase) ∧ x.cell? ⟨wo.heap.size, 4, none⟩ = some (.slice (fr k).oa (Ai l k).pend.objects.length (fr k).oc) ∧ x.cell? ⟨wo.heap.size, 5, none⟩ = some (.slice (fr k).ua (Ai l k).pend.updates.length (fr k).uc) ∧ x.cell? ⟨wo.heap.size, 6, none⟩ = some (.bool (Ai l k).pend.force)) x4 := ⟨hu4.cell hS2.1 (fun e => absurd (hjo _ e).2 (Nat.lt_irrefl _)), hu4.cell hS2.2.1 (fun e => absurd (hjo _ e).2 (Nat.lt_irrefl _)), hu4.cell hS2.2.2.1 (fun e => absurd (hjo _ e).2 (Nat.lt_irrefl _)), hu4.cell hS2.2.2.2.1 (fun e => absurd (hjo _ e).2 (Nat.lt_irrefl _)), hu4.cell hS2.2.2.2.2.1 (fun e => absurd (hjo _ e).2 (Nat.lt_irrefl _)), hu4.cell hS2.2.2.2.2.2.1 (fun e => absurd (hjo _ e).2 (Nat.lt_irrefl _)), hu4.cell hS2.2.2.2.2.2.2 (fun e => absurd (hjo _ e).2 (Nat.lt_irrefl _))⟩
   have hJ4 := hu4.blk (HJ.out _ hC2) (fun e => by have := (hjo _ e).1; omega)
   have hR4 := HRu.out _ _ _ (hQR _ hC2) hu4 (fun b hb => by have := (hjo _ hb).1; omega)
   have HO4 := zh hO4
   refine ⟨hS4, ?_⟩
   clear hO4 hr4 hu4 hjo hrow
   refine al1 6 ?_
   refine Or.inl ?_
   go_simp
   first | refine ⟨hS4, ?_⟩ | skip
   refine al1 7 ?_
   refine Or.inl ?_
   have cJ := Aa (j := 0) hJ4 rfl
   have fJ := Ab (j := 0) hJ4
   go_wp2_with fail
   first | refine ⟨hS4, by kernel_rfl, ?_⟩ | refine ⟨by kernel_rfl, ?_⟩
   have hu5 : Aq (fun b => b = w.heap.size + 2) x4 (x4.setCell ⟨w.heap.size + 2, 0, none⟩ (.slice a4 n4 c4)) := (Aq.refl (fun b => b = w.heap.size + 2) x4).setCell (p := ⟨w.heap.size + 2, 0, none⟩) (fun _ => rfl) _
   have hJ5 : (x4.setCell ⟨w.heap.size + 2, 0, none⟩ (.slice a4 n4 c4)).heap[w.heap.size + 2]? = some (.cells #[.slice a4 n4 c4] 66 (0, 0)) := Ad (j := 0) hJ4 (.slice a4 n4 c4)
   have hR5 := HRu.out _ _ _ hR4 hu5 (fun b hb => by omega)
   have hge : ∀ b, (F b ∨ ((x0.heap.size ≤ b ∧ b < x1.heap.size) ∨ b = x1.heap.size)) → w.heap.size + 3 ≤ b := fun b hb => by rcases hb with hb | hb | hb; exact HF.out b hb; omega; omega
   have hO5 : Ef (w.heap.size + 3) _ (.slice a4 n4 c4) (l.take (k + 1)) := ⟨_, BA.list HTk.out.symm (HO4.out.upd hu5 (fun b hb e => by have := hge b hb; omega) (fun g hg e => by have := (HO4.out.block hg).1; omega)), hge⟩
   generalize x4.setCell ⟨w.heap.size + 2, 0, none⟩ (.slice a4 n4 c4) = x5 at *
   have HI5 := zh (show ∃ va vn vc, Ef (w.heap.size + 3) x5 (.slice va vn vc) (l.take (k + 1)) ∧ x5.heap[w.heap.size + 2]? = some (.cells #[.slice va vn vc] 66 (0, 0)) from ⟨_, _, _, hO5, hJ5⟩)
   clear hO5 hJ5 hge hu5 HO4 cJ fJ hS4 hJ4 hS0 hS1 hS2 HS HO HJ HC Hv HI
   go_wp2_with fail
   go_roundw
   case rel => exact ⟨k + 1, by omega, by go_num, HI5.out, hR5⟩
   case measure => simp [intOf]; omega
  refine Or.inl ?_
  have hC2 := hQ.alloc _ (.cells (c7 (Ai l k) Bm Bs ra1 rc1 oa1 oc1 ua1 uc1) 28) hC1
  have hS2 := HS _ hC2
  have hrow := zh (MM x1 (Ai l k) ⟨.slice Bm (Ai l k).store.length Bs, .slice ra1 (Ai l k).refs.length rc1, .slice oa1 (Ai l k).pend.objects.length oc1, .slice ua1 (Ai l k).pend.updates.length uc1⟩ 28 x1.heap.size rfl (AI.lt Hv.out))
  go_simp
  refine al1 1 ?_
  refine Or.inl ?_
  have cJw := Aa (j := 0) (HJ.out _ hC2) rfl
  go_simp
  clear cJw
  refine al1 5 ?_
  refine Or.inl ?_
  obtain ⟨v4, x4, hr4, hO4, hu4⟩ := Fb 64 (HO.out _ hC2) hrow.out (fun b hb => ⟨by rcases hb with hb | hb; have := hb.2; simp; omega; simp; omega, fun e => by have := (Hob.out _ e).2; rcases hb with hb | hb; have := hb.1; omega; omega⟩) (by simp; omega) (by simp; omega)
  obtain ⟨a4, n4, c4, rfl⟩ := hO4.shape3
  refine Cx (.tmp 14) (.tmp 17) 64 (by rfl) _ _ _ (by rfl) (by rfl) hr4 ?_
  simp only [tkS]
  have hjo : ∀ b, (Value.slice va vn vc).ownBlock = some b → w.heap.size + 3 ≤ b ∧ b < wo.heap.size := fun b hb => Hob.out b hb
  have hS4 : (fun x : World => x.cell? ⟨wo.heap.size, 0, none⟩ = some (.slice (fr k).sa (Ai l k).store.length (fr k).sc) ∧ x.cell? ⟨wo.heap.size, 1, none⟩ = some (.slice (fr k).ra (Ai l k).refs.length (fr k).rc) ∧ x.cell? ⟨wo.heap.size, 2, none⟩ = some (.int .i64 (Ai l k).gen) ∧ x.cell? ⟨wo.heap.size, 3, none⟩ = some (.int .i64 (Ai l k).phase) ∧ x.cell? ⟨wo.heap.size, 4, none⟩ = some (.slice (fr k).oa (Ai l k).pend.objects.length (fr k).oc) ∧ x.cell? ⟨wo.heap.size, 5, none⟩ = some (.slice (fr k).ua (Ai l k).pend.updates.length (fr k).uc) ∧ x.cell? ⟨wo.heap.size, 6, none⟩ = some (.bool (Ai l k).pend.force)) x4 := ⟨hu4.cell hS2.1 (fun e => absurd (hjo _ e).2 (Nat.lt_irrefl _)), hu4.cell hS2.2.1 (fun e => absurd (hjo _ e).2 (Nat.lt_irrefl _)), hu4.cell hS2.2.2.1 (fun e => absurd (hjo _ e).2 (Nat.lt_irrefl _)), hu4.cell hS2.2.2.2.1 (fun e => absurd (hjo _ e).2 (Nat.lt_irrefl _)), hu4.cell hS2.2.2.2.2.1 (fun e => absurd (hjo _ e).2 (Nat.lt_irrefl _)), hu4.cell hS2.2.2.2.2.2.1 (fun e => absurd (hjo _ e).2 (Nat.lt_irrefl _)), hu4.cell hS2.2.2.2.2.2.2 (fun e => absurd (hjo _ e).2 (Nat.lt_irrefl _))⟩
  have hJ4 := hu4.blk (HJ.out _ hC2) (fun e => by have := (hjo _ e).1; omega)
  have hR4 := HRu.out _ _ _ (hQR _ hC2) hu4 (fun b hb => by have := (hjo _ hb).1; omega)
  have HO4 := zh hO4
  refine ⟨hS4, ?_⟩
  clear hO4 hr4 hu4 hjo hrow
  refine al1 6 ?_
  refine Or.inl ?_
  go_simp
  first | refine ⟨hS4, ?_⟩ | skip
  refine al1 7 ?_
  refine Or.inl ?_
  have cJ := Aa (j := 0) hJ4 rfl
  have fJ := Ab (j := 0) hJ4
  go_wp2_with fail
  first | refine ⟨hS4, by kernel_rfl, ?_⟩ | refine ⟨by kernel_rfl, ?_⟩
  have hu5 : Aq (fun b => b = w.heap.size + 2) x4 (x4.setCell ⟨w.heap.size + 2, 0, none⟩ (.slice a4 n4 c4)) := (Aq.refl (fun b => b = w.heap.size + 2) x4).setCell (p := ⟨w.heap.size + 2, 0, none⟩) (fun _ => rfl) _
  have hJ5 : (x4.setCell ⟨w.heap.size + 2, 0, none⟩ (.slice a4 n4 c4)).heap[w.heap.size + 2]? = some (.cells #[.slice a4 n4 c4] 66 (0, 0)) := Ad (j := 0) hJ4 (.slice a4 n4 c4)
  have hR5 := HRu.out _ _ _ hR4 hu5 (fun b hb => by omega)
  have hge : ∀ b, (F b ∨ ((x0.heap.size ≤ b ∧ b < x1.heap.size) ∨ b = x1.heap.size)) → w.heap.size + 3 ≤ b := fun b hb => by rcases hb with hb | hb | hb; exact HF.out b hb; omega; omega
  have hO5 : Ef (w.heap.size + 3) _ (.slice a4 n4 c4) (l.take (k + 1)) := ⟨_, BA.list HTk.out.symm (HO4.out.upd hu5 (fun b hb e => by have := hge b hb; omega) (fun g hg e => by have := (HO4.out.block hg).1; omega)), hge⟩
  generalize x4.setCell ⟨w.heap.size + 2, 0, none⟩ (.slice a4 n4 c4) = x5 at *
  have HI5 := zh (show ∃ va vn vc, Ef (w.heap.size + 3) x5 (.slice va vn vc) (l.take (k + 1)) ∧ x5.heap[w.heap.size + 2]? = some (.cells #[.slice va vn vc] 66 (0, 0)) from ⟨_, _, _, hO5, hJ5⟩)
  clear hO5 hJ5 hge hu5 HO4 cJ fJ hS4 hJ4 hS0 hS1 hS2 HS HO HJ HC Hv HI
  go_wp2_with fail
  go_roundw
  case rel => exact ⟨k + 1, by omega, by go_num, HI5.out, hR5⟩
  case measure => simp [intOf]; omega
 ·obtain rfl : k = n := by omega
  rw [HL.out] at hO
  have HOk := zh (And.intro hO hF)
  have hZ := HZ.out _ hRw
  have cJ := Aa (j := 0) hJ rfl
  have cZ := Aa (j := 0) hZ rfl
  have fZ := Ab (j := 0) hZ
  clear hO hF HI c0
  go_wp2_with fail
  have hu5 : Aq (fun b => b = w.heap.size + 1) wr (wr.setCell ⟨w.heap.size + 1, 0, none⟩ (.slice va vn vc)) := (Aq.refl (fun b => b = w.heap.size + 1) wr).setCell (p := ⟨w.heap.size + 1, 0, none⟩) (fun _ => rfl) _
  have hk5 : (wr.setCell ⟨w.heap.size + 1, 0, none⟩ (.slice va vn vc)).heap[w.heap.size + 1]? = some (.cells #[.slice va vn vc] 66 (0, 0)) := Ad (j := 0) hZ (.slice va vn vc)
  generalize wr.setCell ⟨w.heap.size + 1, 0, none⟩ (.slice va vn vc) = x5 at *
  have k0 := Aa (j := 0) hk5 rfl
  refine bodyPost_ret (v := .agg #[.slice va vn vc]) (by simp [results, Tryz.results114, go_sem]; simp [k0] <;> rfl) rfl ?_
  refine ⟨_, rfl, ⟨F, (HOk.out.1.upd hu5 (fun b hb e => by have := HOk.out.2 b hb; omega) (fun g hg e => by have := (HOk.out.1.block hg).1; omega)).weaken (B' := w.heap.size) (fun _ h => h) (fun b hb => ⟨Nat.lt_of_lt_of_le (HOk.out.1.lt hb) hu5.size, HOk.out.1.own hb⟩) (by omega), fun b hb => by have := HOk.out.2 b hb; omega⟩, (hRb _ hRw).trans (hu5.below (B := w.heap.size) (hRb _ hRw).size (fun b hb => by omega))⟩
structure By (l : List An) : Prop where
 len : l.length = 3
 each : ∀ i, i < 3 → Ct (Ai l i)
 refs : ∀ i j, i < 3 → j < 3 → (Ai l i).gen = (Ai l j).gen → (Ai l i).refs = (Ai l j).refs
 top : ∃ i j, i < j ∧ j < 3 ∧ (Ai l i).gen = (Ai l j).gen ∧ ∀ k, k < 3 → (Ai l k).gen ≤ (Ai l i).gen
theorem Ol (l : List An) (g : Int) : Te l g 3 = (if (Ai l 0).gen = g then 1 else 0) + (if (Ai l 1).gen = g then 1 else 0) + (if (Ai l 2).gen = g then 1 else 0) := by
 simp only [Te]; omega
theorem Me {x y : An} : KE x y = false ↔ (x.gen = y.gen → x.refs = y.refs) := by
 unfold KE
 by_cases h : x.gen = y.gen
 ·rw [show (x.gen == y.gen) = true by simpa using h, Bool.true_and, Bool.not_eq_false', Eu]
  exact ⟨fun e _ => e, fun e => e h⟩
 ·rw [show (x.gen == y.gen) = false by simpa using h, Bool.false_and]
  exact ⟨fun _ e => absurd e h, fun _ => rfl⟩
theorem Xf {l : List An} {i k : Nat} (hi : i ≤ l.length) (h : Fl l i = false) (hk : k < i) : KE (Ai l i) (Ai l k) = false := by
 cases ho : KE (Ai l i) (Ai l k)
 ·rfl
 ·rw [XO hi hk ho] at h; cases h
theorem KU {l : List An} : Dy l = 0 ↔ By l := by
 constructor
 ·intro h
  obtain ⟨hl, h1, h2, h3⟩ := Tp h
  have hrf : ∀ i j, j < i → i < 3 → (Ai l i).gen = (Ai l j).gen → (Ai l i).refs = (Ai l j).refs := fun i j hij hi => Me.1 (Xf (by omega) (h2 i hi) hij)
  refine ⟨hl, fun i hi => Bf.1 (h1 i hi), fun i j hi hj e => ?_, ?_⟩
  ·rcases Nat.lt_trichotomy i j with h | h | h
   ·exact (hrf j i h hj e.symm).symm
   ·subst h; rfl
   ·exact hrf i j h hi e
  ·have hb := (Ix l l.length).1
   rw [hl] at hb
   rw [PI, hl, Ol] at h3
   have hbe : (AP l 3).1 = CR l := by unfold CR; rw [hl]
   rw [hbe] at hb
   generalize (Ai l (CR l)).gen = G at *
   have g0 := hb 0 (by omega)
   have g1 := hb 1 (by omega)
   have g2 := hb 2 (by omega)
   by_cases e0 : (Ai l 0).gen = G
   ·by_cases e1 : (Ai l 1).gen = G
    ·exact ⟨0, 1, by omega, by omega, by omega, fun k hk => by rw [e0]; exact hb k hk⟩
    ·by_cases e2 : (Ai l 2).gen = G
     ·exact ⟨0, 2, by omega, by omega, by omega, fun k hk => by rw [e0]; exact hb k hk⟩
     ·rw [if_pos e0, if_neg e1, if_neg e2] at h3; omega
   ·by_cases e1 : (Ai l 1).gen = G
    ·by_cases e2 : (Ai l 2).gen = G
     ·exact ⟨1, 2, by omega, by omega, by omega, fun k hk => by rw [e1]; exact hb k hk⟩
     ·rw [if_neg e0, if_pos e1, if_neg e2] at h3; omega
    ·rw [if_neg e0, if_neg e1] at h3
     split at h3 <;> omega
 ·intro h
  have h0 : Ao (fun i => Am (Ai l i)) 3 = 0 := AW fun k hk => Bf.2 (h.each k hk)
  have h1 : Ao (JJ l) 3 = 0 := AW fun k hk => by
   unfold JJ
   rw [Xa (by rw [h.len]; omega) (fun j hj => Me.2 fun e => h.refs k j hk (by omega) e)]; rfl
  rw [QA h.len h0 h1]
  refine if_neg ?_
  rw [PI, h.len]
  obtain ⟨i, j, hij, hj, e, hm⟩ := h.top
  have hb := (Ix l l.length).1
  rw [h.len] at hb
  have hbe : (AP l 3).1 = CR l := by unfold CR; rw [h.len]
  rw [hbe] at hb
  have hG : (Ai l (CR l)).gen = (Ai l i).gen := by
   have hlt : CR l < 3 := by have := Kr (l := l) (by have := h.len; omega); have := h.len; omega
   have := hm _ hlt
   have := hb i (by omega)
   omega
  rw [hG, Ol]
  have hcase : (i = 0 ∧ j = 1) ∨ (i = 0 ∧ j = 2) ∨ (i = 1 ∧ j = 2) := by omega
  rcases hcase with ⟨rfl, rfl⟩ | ⟨rfl, rfl⟩ | ⟨rfl, rfl⟩
  ·rw [if_pos rfl, if_pos e.symm]; split <;> omega
  ·rw [if_pos rfl, if_pos e.symm]; split <;> omega
  ·rw [if_pos rfl, if_pos e.symm]; split <;> omega
def DM (n : Int) (i : Nat) : Bool := n / 2 ^ i % 2 == 1
def BV (l : List An) (p : BJ) (up : Int) (i : Nat) : ByteArray := if DM up i = true ∧ (Ai l i).phase = 0 then Cu (Ai l i) p else ByteArray.empty
def Cm (l : List An) (p : BJ) (up : Int) : List ByteArray := [BV l p up 0, BV l p up 1, BV l p up 2]
def Bg (l : List An) (p : BJ) (up late : Int) (i : Nat) : Bool := (CS (Cm l p up)).2 && ((BV l p up i).toList == (CS (Cm l p up)).1.toList) && !DM late i
def Dt (l : List An) (p : BJ) (up late : Int) : Nat → Nat
 | 0 => 0
 | k + 1 => Dt l p up late k + if Bg l p up late k = true then 1 else 0
def Ei (p : BJ) (up late : Int) : Int := if As p ≠ 0 then As p else if 0 ≤ up ∧ up ≤ 7 ∧ 0 ≤ late ∧ late ≤ 7 then 0 else 3
def Ck (l : List An) (p : BJ) (up late : Int) : Bool := decide (2 ≤ Dt l p up late 3)
def Dd (l : List An) (p : BJ) (up late : Int) (i : Nat) : Int := if Ck l p up late = true ∧ Bg l p up late i = true ∧ (Ai l i).gen = 999 then 2 else 0
def BT (l : List An) (p : BJ) (up late : Int) : Int := if Ei p up late ≠ 0 then Ei p up late else Ao (Dd l p up late) 3
def Bq (l : List An) (p : BJ) (up late : Int) (i : Nat) : An := if Ck l p up late = true ∧ Bg l p up late i = true then DU (Ai l i) p else Ai l i
def Bh (l : List An) (p : BJ) (up late : Int) : List An := if BT l p up late = 0 then [Bq l p up late 0, Bq l p up late 1, Bq l p up late 2] else []
def CC (l : List An) (p : BJ) (up late : Int) : Bool := if BT l p up late = 0 then Ck l p up late else false
theorem Rp {l : List An} (h : l.length = 3) : l = [Ai l 0, Ai l 1, Ai l 2] := by
 match l, h with
 | [a, b, c], _ => rfl
theorem Tz {l : List An} {p : BJ} {up late : Int} (h : BT l p up late = 0) {i : Nat} (hi : i < 3) : Ai (Bh l p up late) i = Bq l p up late i := by
 unfold Bh
 rw [if_pos h]
 have : i = 0 ∨ i = 1 ∨ i = 2 := by omega
 rcases this with rfl | rfl | rfl <;> rfl
theorem Qg (l : List An) (p : BJ) (up late : Int) : Dt l p up late 3 = (if Bg l p up late 0 = true then 1 else 0) + (if Bg l p up late 1 = true then 1 else 0) + (if Bg l p up late 2 = true then 1 else 0) := by
 simp only [Dt]; omega
theorem Ng (l : List An) (p : BJ) (up late : Int) : ∀ k, Dt l p up late k ≤ k
 | 0 => Nat.le_refl _
 | k + 1 => by have := Ng l p up late k; unfold Dt; split <;> omega
def Wi (l : List UInt8) : Nat := l.foldl (fun a c => a * 10 + (c.toNat - 48)) 0
theorem SR : ∀ n, n < 1000 → Wi (Lib.decDigits n) = n := by
 have h : (List.range 1000).all (fun n => Wi (Lib.decDigits n) == n) = true := by decide +kernel
 intro n hn
 have := List.all_eq_true.1 h n (List.mem_range.2 hn)
 simpa using this
theorem WY {a b : Int} (ha : 0 ≤ a ∧ a ≤ 999) (hb : 0 ≤ b ∧ b ≤ 999) (h : Bb a = Bb b) : a = b := by
 unfold Bb at h
 have h1 : Lib.decDigits a.toNat = Lib.decDigits b.toNat := by
  have := congrArg (fun x : ByteArray => x.data.toList) h
  simpa using this
 have h2 := congrArg Wi h1
 rw [SR _ (by omega), SR _ (by omega)] at h2
 omega
theorem Xo {a b c : ByteArray} (h : a ++ b = a ++ c) : b = c := by
 have := congrArg (fun x : ByteArray => x.data.toList) h
 simp only [ByteArray.data_append, Array.toList_append] at this
 exact MX (List.append_cancel_left this)
theorem Qd {a b c : ByteArray} (h : a ++ c = b ++ c) : a = b := by
 have := congrArg (fun x : ByteArray => x.data.toList) h
 simp only [ByteArray.data_append, Array.toList_append] at this
 exact MX (List.append_cancel_right this)
theorem RO {r : An} {p : BJ} (h : Ib (Cu r p) = true) : Bn r p = 0 := by
 by_cases ht : Bn r p = 0
 ·exact ht
 ·unfold Cu at h
  rw [if_pos ht] at h
  unfold Ib at h
  rw [ByteArray.data_append, Array.toList_append] at h
  simp [Yo] at h
theorem Vv {r s : An} {p : BJ} (hr : 0 ≤ r.gen ∧ r.gen ≤ 999) (hs : 0 ≤ s.gen ∧ s.gen ≤ 999) (h1 : Bn r p = 0) (h2 : Bn s p = 0) (h : Cu r p = Cu s p) : r.gen = s.gen := by
 unfold Cu at h
 rw [if_neg (by simpa using h1), if_neg (by simpa using h2)] at h
 exact WY hr hs (Xo (Qd (Qd h)))
structure Wu (l : List An) (p : BJ) (up late : Int) (i : Nat) : Prop where
 isUp : DM up i = true
 idle : (Ai l i).phase = 0
 onTime : DM late i = false
 told : Cu (Ai l i) p = (CS (Cm l p up)).1
 vote : Bn (Ai l i) p = 0
theorem DY {l : List An} {p : BJ} {up late : Int} {i : Nat} (h : Bg l p up late i = true) : Wu l p up late i := by
 unfold Bg at h
 rw [Bool.and_eq_true, Bool.and_eq_true, BB, decide_eq_true_iff, Bool.not_eq_true'] at h
 obtain ⟨⟨h1, h2⟩, h3⟩ := h
 have hT : CS (Cm l p up) = ((CS (Cm l p up)).1, true) := Prod.ext rfl h1
 obtain ⟨_, _, hy⟩ := Ud.1 hT
 rw [← h2] at hy
 unfold BV at hy h2
 by_cases hc : DM up i = true ∧ (Ai l i).phase = 0
 ·rw [if_pos hc] at hy h2
  exact ⟨hc.1, hc.2, h3, h2, RO hy⟩
 ·rw [if_neg hc, OB] at hy; cases hy
theorem MY {l : List An} {p : BJ} {up late : Int} (hc : By l) {i j : Nat} (hi : i < 3) (hj : j < 3) (h1 : Wu l p up late i) (h2 : Wu l p up late j) : (Ai l i).gen = (Ai l j).gen :=
 Vv (hc.each i hi).gen (hc.each j hj).gen h1.vote h2.vote (h1.told.trans h2.told.symm)
theorem Np {l : List An} {p : BJ} {up late : Int} (hc : By l) (hd : Ck l p up late = true) : ∃ i j, i < j ∧ j < 3 ∧ Wu l p up late i ∧ Wu l p up late j ∧ Bg l p up late i = true ∧ Bg l p up late j = true ∧ ∀ k, k < 3 → (Ai l k).gen ≤ (Ai l i).gen := by
 have hn : 2 ≤ Dt l p up late 3 := by simpa [Ck] using hd
 rw [Qg] at hn
 have hex : ∃ i j, i < j ∧ j < 3 ∧ Bg l p up late i = true ∧ Bg l p up late j = true := by
  by_cases c0 : Bg l p up late 0 = true
  ·by_cases c1 : Bg l p up late 1 = true
   ·exact ⟨0, 1, by omega, by omega, c0, c1⟩
   ·by_cases c2 : Bg l p up late 2 = true
    ·exact ⟨0, 2, by omega, by omega, c0, c2⟩
    ·rw [if_pos c0, if_neg c1, if_neg c2] at hn; omega
  ·by_cases c1 : Bg l p up late 1 = true
   ·by_cases c2 : Bg l p up late 2 = true
    ·exact ⟨1, 2, by omega, by omega, c1, c2⟩
    ·rw [if_neg c0, if_pos c1, if_neg c2] at hn; omega
   ·rw [if_neg c0, if_neg c1] at hn
    split at hn <;> omega
 obtain ⟨i, j, hij, hj, ci, cj⟩ := hex
 have Ci := DY ci
 have Cj := DY cj
 have hg := MY hc (by omega) hj Ci Cj
 refine ⟨i, j, hij, hj, Ci, Cj, ci, cj, ?_⟩
 obtain ⟨a, b, hab, hb, e, hm⟩ := hc.top
 have : (Ai l i).gen = (Ai l a).gen := by
  have hx : i = a ∨ i = b ∨ j = a ∨ j = b := by omega
  rcases hx with rfl | rfl | rfl | rfl
  ·rfl
  ·exact e.symm
  ·exact hg
  ·rw [hg]; exact e.symm
 intro k hk
 rw [this]; exact hm k hk
theorem Vj {l : List An} {p : BJ} {up late : Int} (he : BT l p up late = 0) (hd : Ck l p up late = true) {i : Nat} (hi : i < 3) (h : Bg l p up late i = true) : (Ai l i).gen ≠ 999 := by
 intro hg
 unfold BT at he
 split at he
 ·rename_i h1; exact absurd he h1
 ·have := Be he i hi
  unfold Dd at this
  rw [if_pos ⟨hd, h, hg⟩] at this; cases this
theorem TU {r s : An} {p : BJ} (h1 : Bn r p = 0) (h2 : Bn s p = 0) (h : r.refs = s.refs) : EJ r p = EJ s p := by
 rw [(RS h1).moved, (RS h2).moved, h]
theorem EL {l : List An} {p : BJ} {up late : Int} {i : Nat} (h : ¬ (Ck l p up late = true ∧ Bg l p up late i = true)) : Bq l p up late i = Ai l i := by unfold Bq; rw [if_neg h]
theorem FQ {l : List An} {p : BJ} {up late : Int} {i : Nat} (hd : Ck l p up late = true) (h : Bg l p up late i = true) : Bq l p up late i = DU (Ai l i) p := by unfold Bq; rw [if_pos ⟨hd, h⟩]
theorem RI {l : List An} {p : BJ} {up late : Int} (hc : By l) (he : BT l p up late = 0) : By (Bh l p up late) := by
 have hat : ∀ i, i < 3 → Ai (Bh l p up late) i = Bq l p up late i := fun i hi => Tz he hi
 have hlen : (Bh l p up late).length = 3 := by unfold Bh; rw [if_pos he]; rfl
 cases hd : Ck l p up late
 ·have e : ∀ i, i < 3 → Ai (Bh l p up late) i = Ai l i := fun i hi => by rw [hat i hi]; exact EL (by simp [hd])
  refine ⟨hlen, fun i hi => by rw [e i hi]; exact hc.each i hi, fun i j hi hj => by rw [e i hi, e j hj]; exact hc.refs i j hi hj, ?_⟩
  obtain ⟨i, j, hij, hj, e1, hm⟩ := hc.top
  exact ⟨i, j, hij, hj, by rw [e i (by omega), e j hj]; exact e1, fun k hk => by rw [e k hk, e i (by omega)]; exact hm k hk⟩
 ·obtain ⟨i, j, hij, hj, Ci, Cj, ci, cj, hm⟩ := Np hc hd
  have hgen : ∀ k, k < 3 → (Ai (Bh l p up late) k).gen ≤ (Ai l i).gen + 1 ∧ (Bg l p up late k = true → (Ai (Bh l p up late) k).gen = (Ai l i).gen + 1) ∧ (Bg l p up late k = false → Ai (Bh l p up late) k = Ai l k) := fun k hk => by
   rw [hat k hk]
   cases hb : Bg l p up late k
   ·rw [EL (by simp [hb])]
    exact ⟨by have := hm k hk; omega, fun h => by (cases h), fun _ => rfl⟩
   ·rw [FQ hd hb]
    have : (Ai l k).gen = (Ai l i).gen := MY hc hk (by omega) (DY hb) Ci
    exact ⟨by show (Ai l k).gen + 1 ≤ _; omega, fun _ => by show (Ai l k).gen + 1 = _; omega, fun h => by (cases h)⟩
  refine ⟨hlen, fun k hk => ?_, fun a b ha hb e => ?_, ⟨i, j, hij, hj, ?_, fun k hk => ?_⟩⟩
  ·rw [hat k hk]
   cases hb : Bg l p up late k
   ·rw [EL (by simp [hb])]; exact hc.each k hk
   ·rw [FQ hd hb]
    exact Mg (hc.each k hk) (DY hb).vote (Vj he hd hk hb)
  ·cases ca : Bg l p up late a <;> cases cb : Bg l p up late b
   ·rw [(hgen a ha).2.2 ca, (hgen b hb).2.2 cb] at e ⊢; exact hc.refs a b ha hb e
   ·rw [(hgen a ha).2.2 ca, (hgen b hb).2.1 cb] at e; have := hm a ha; omega
   ·rw [(hgen a ha).2.1 ca, (hgen b hb).2.2 cb] at e; have := hm b hb; omega
   ·rw [hat a ha, hat b hb, FQ hd ca, FQ hd cb]
    exact TU (DY ca).vote (DY cb).vote (hc.refs a b ha hb (MY hc ha hb (DY ca) (DY cb)))
  ·rw [(hgen i (by omega)).2.1 ci, (hgen j hj).2.1 cj]
  ·rw [(hgen i (by omega)).2.1 ci]; exact (hgen k hk).1
end Go.Proofs.YtjdgpgfiomnjkaaGreatDoor
