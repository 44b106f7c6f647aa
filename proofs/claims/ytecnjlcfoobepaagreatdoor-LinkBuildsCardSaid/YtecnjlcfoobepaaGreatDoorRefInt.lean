import Derived.Test.YtecnjlcfoobepaaGreatDoorRefAdd
import Derived.Test.YtecnjlcfoobepaaGreatDoorRefMake
namespace Go.Proofs.YtecnjlcfoobepaaGreatDoor
set_option maxRecDepth 100000
set_option maxHeartbeats 1000000
open Go.RowKit
set_option linter.unusedSimpArgs false
set_option linter.unusedVariables false
theorem IsI.shape {w : World} {B : Nat} {V : Value} {z : Int} (h : IsI w B V z) : ∃ g A l c, V = .agg #[.bool g, .slice A l c] := by
 obtain ⟨v, h1, h2⟩ := h
 obtain ⟨A, l, c, rfl⟩ := h2.form
 exact ⟨_, A, l, c, h1⟩
theorem IsQ.shape {w : World} {B : Nat} {V : Value} {q : Rat} (h : IsQ w B V q) : ∃ g A l c A' l' c', V = .agg #[.bool g, .slice A l c, .slice A' l' c'] := by
 obtain ⟨v, v', h1, h2, h3⟩ := h
 obtain ⟨A, l, c, rfl⟩ := h2.form
 obtain ⟨A', l', c', rfl⟩ := h3.form
 exact ⟨_, A, l, c, A', l', c', h1⟩
theorem IsI.parts {w : World} {B : Nat} {g : Bool} {v : Value} {z : Int} (h : IsI w B (.agg #[.bool g, v]) z) : decide (z < 0) = g /\ IsN w B v z.natAbs := by
 obtain ⟨v', h1, h2⟩ := h
 simp at h1
 obtain ⟨rfl, rfl⟩ := h1
 exact ⟨rfl, h2⟩
theorem IsI.of {w : World} {B a : Nat} {g : Bool} {v : Value} {z : Int} (h : IsN w B v z.natAbs) (hg : decide (z < 0) = g) : IsI w B (.agg #[.bool g, v]) z := ⟨v, by rw [hg], h⟩
theorem IsQ.parts {w : World} {B : Nat} {g : Bool} {v v' : Value} {q : Rat} (h : IsQ w B (.agg #[.bool g, v, v']) q) : decide (q.num < 0) = g /\ IsN w B v q.num.natAbs /\ IsN w B v' q.den := by
 obtain ⟨u, u', h1, h2, h3⟩ := h
 simp at h1
 obtain ⟨rfl, rfl, rfl⟩ := h1
 exact ⟨rfl, h2, h3⟩
theorem IsQ.num {w : World} {B : Nat} {g : Bool} {v v' : Value} {q : Rat} (h : IsQ w B (.agg #[.bool g, v, v']) q) : IsI w B (.agg #[.bool g, v]) q.num := by
 obtain ⟨h1, h2, h3⟩ := h.parts
 exact ⟨v, by rw [h1], h2⟩
theorem IsQ.mk {w : World} {B : Nat} {g : Bool} {v v' : Value} {q : Rat} (h : IsI w B (.agg #[.bool g, v]) q.num) (h' : IsN w B v' q.den) : IsQ w B (.agg #[.bool g, v, v']) q := by
 obtain ⟨h1, h2⟩ := h.parts
 exact ⟨v, v', by rw [h1], h2, h'⟩
theorem retI_done {w W wn : World} {z : Int} {g l c : Nat} {t : TypeId} {ng : Bool} {A : Option Addr} (hB : Below w.heap.size w W) (hc : Below W.heap.size W wn) (hI : IsI wn wn.heap.size (.agg #[.bool ng, .slice A l c]) z)
  (hr : Blk wn g t #[.bool false, .slice none 0 0]) (hg : w.heap.size <= g) : RetI z w (.returned (.agg #[.bool ng, .slice A l c])) ((wn.setCell ⟨g, 0, none⟩ (.bool ng)).setCell ⟨g, 1, none⟩ (.slice A l c)) := by
 obtain ⟨h1, h2⟩ := hI.parts
 refine ⟨_, rfl, ⟨.slice A l c, by rw [h1], ?_⟩, bset2 (bthen hB hc) hg _ _⟩
 rw [World.size_setCell, World.size_setCell]
 exact h2.set2 hr (bool_ne _) (slice_ne _ _ _) _ _ (bool_ne _)
theorem retQ_done {w W wn : World} {q : Rat} {g l c l' c' : Nat} {t : TypeId} {ng : Bool} {A A' : Option Addr} (hB : Below w.heap.size w W) (hc : Below W.heap.size W wn) (hQ : IsQ wn wn.heap.size (.agg #[.bool ng, .slice A l c, .slice A' l' c']) q)
  (hr : Blk wn g t #[.bool false, .slice none 0 0, .slice none 0 0]) (hg : w.heap.size <= g) : RetQ q w (.returned (.agg #[.bool ng, .slice A l c, .slice A' l' c'])) (((wn.setCell ⟨g, 0, none⟩ (.bool ng)).setCell ⟨g, 1, none⟩ (.slice A l c)).setCell ⟨g, 2, none⟩ (.slice A' l' c')) := by
 obtain ⟨h1, h2, h3⟩ := hQ.parts
 refine ⟨_, rfl, ⟨.slice A l c, .slice A' l' c', by rw [h1], ?_, ?_⟩, bset3 (bthen hB hc) hg _ _ _⟩
 ·rw [World.size_setCell, World.size_setCell, World.size_setCell]
  exact h2.set3 hr (bool_ne _) (slice_ne _ _ _) (slice_ne _ _ _) _ _ _ (bool_ne _) (slice_ne _ _ _)
 rw [World.size_setCell, World.size_setCell, World.size_setCell]
 exact h3.set3 hr (bool_ne _) (slice_ne _ _ _) (slice_ne _ _ _) _ _ _ (bool_ne _) (slice_ne _ _ _)
theorem limbsZ {n k : Nat} (h : blen n <= 274877906944) (hk : 8589934592 <= k) : (limbs n).length <= k := nt (limbs_blen n 8589934592 (by omega)) hk
theorem ref_mkI (neg : Bool) (a B : Nat) (va : Value) (w : World) (h : IsN w B va a) (hB : B <= w.heap.size) : Calls Tryz.prog 115 #[.bool neg, va] w (RetI (signed neg a) w) :=
 (ref_I neg a B va w h hB).mono fun e w' ⟨h1, h2⟩ => ⟨_, h1, ⟨va, rfl, by rw [signed_abs]; exact (h.next hB h2).more (nt hB h2.size)⟩, h2⟩
theorem ref_intNeg (z : Int) (B : Nat) (V : Value) (w : World) (h : IsI w B V z) (hBB : B <= w.heap.size) : Calls Tryz.prog 158 #[V] w (RetI (-z) w) := by
 obtain ⟨n0, A0, l0, c0c, rfl⟩ := h.shape
 obtain ⟨hd, hn⟩ := h.parts
 have hs : signed (!n0) z.natAbs = -z := by
  unfold signed
  rw [<- hd]
  by_cases h : z < 0
  ·rw [decide_eq_true h]; simp; omega
  rw [decide_eq_false h]; simp; omega
 have H := lh hn
 clear h hn hd
 have b0 := (Blk.new w  68 #[.bool n0, .slice A0 l0 c0c]).alloc (.cells #[.bool false, .slice none 0 0] 68); have b1 := Blk.new2 w (.cells #[.bool n0, .slice A0 l0 c0c] 68) 68 #[.bool false, .slice none 0 0]; have hB := balloc2 w (.cells #[.bool n0, .slice A0 l0 c0c] 68) (.cells #[.bool false, .slice none 0 0] 68); have hZ := lh (show ((w.alloc (.cells #[.bool n0, .slice A0 l0 c0c] 68)).alloc (.cells #[.bool false, .slice none 0 0] 68)).heap.size = w.heap.size + 1 + 1 from by simp)
 go_enter Tryz.func158, Tryz.ntmps158
 go_wp2_with fail
 generalize ((w.alloc (.cells #[.bool n0, .slice A0 l0 c0c] 68)).alloc (.cells #[.bool false, .slice none 0 0] 68)) = W at *
 have hBW : B <= W.heap.size := nt hBB hB.size
 have hmk : ∀ w', Below W.heap.size W w' -> Calls Tryz.prog 115 #[.bool (!n0), .slice A0 l0 c0c] w' (RetI (-z) w') := fun w' hb => by
  have := ref_mkI (!n0) z.natAbs B _ w' ((H.out.next hBB hB).next hBW hb) (nt hBW hb.size)
  rw [hs] at this
  exact this
 have HMK := lh hmk
 clear hmk hs
 have c0 := b0; have c0l := c0.lt; obtain ⟨c0q0, c0q1⟩ := c0.c2; have c1 := b1; have c1l := c1.lt; have hc := Below.refl W.heap.size W; go_wp2_with fail; refine (HMK.out _ hc).mono ?_; rintro e w1 ⟨v1, rfl, hR1, hw1⟩; obtain ⟨g1, A1, l1, c1c, hv1⟩ := hR1.shape; subst hv1; have c0 := c0.below hw1 c0.lt; (try clear c0q0 c0q1); obtain ⟨c0q0, c0q1⟩ := c0.c2; (try clear c0l); have c0l := c0.lt; have c1 := c1.below hw1 c1.lt; (try clear c1l); have c1l := c1.lt; have hc := bthen hc hw1; obtain ⟨c1q0, c1q1, c1f0, c1f1, c1s0, c1s1⟩ := c1.f2
 go_wp2
 refine bodyPost_ret (v := .agg #[.bool g1, .slice A1 l1 c1c]) (by simp [results, Tryz.results158, go_sem, c1s0, c1s1]) rfl ?_
 exact retI_done hB hc hR1 c1 (by omega)
theorem ref_intSign (z : Int) (B : Nat) (V : Value) (w : World) (h : IsI w B V z) : Calls Tryz.prog 90 #[V] w (Ret (.int .i64 z.sign) w) := by
 obtain ⟨n0, A0, l0, c0c, rfl⟩ := h.shape
 obtain ⟨hd, hn⟩ := h.parts
 have hl : l0 = (limbs z.natAbs).length := by
  obtain ⟨A', c', h1, _⟩ := hn
  injection h1
 have hz := limbs_nil z.natAbs
 rw [<- hl] at hz
 have hs : (l0 = 0 /\ z.sign = 0) \/ (((l0 : Int) == 0) = false /\ n0 = true /\ z.sign = -1) \/ (((l0 : Int) == 0) = false /\ n0 = false /\ z.sign = 1) := by
  rcases Int.lt_trichotomy z 0 with h1 | h1 | h1
  ·right; left
   exact ⟨by simp; omega, by rw [<- hd]; exact decide_eq_true h1, Int.sign_eq_neg_one_of_neg h1⟩
  ·left
   subst h1
   exact ⟨hz.2 rfl, rfl⟩
  right; right
  exact ⟨by simp; omega, by rw [<- hd]; exact decide_eq_false (by omega), Int.sign_eq_one_of_pos h1⟩
 clear h hd hn hl hz
 have b0 := Blk.new w  68 #[.bool n0, .slice A0 l0 c0c]; have hB := balloc1 w (.cells #[.bool n0, .slice A0 l0 c0c] 68); have hZ := lh (show (w.alloc (.cells #[.bool n0, .slice A0 l0 c0c] 68)).heap.size = w.heap.size + 1 from by simp)
 rcases hs with ⟨rfl, h2⟩ | ⟨h1, rfl, h2⟩ | ⟨h1, rfl, h2⟩
 all_goals
  rw [h2]
  clear h2
  go_enter Tryz.func90, Tryz.ntmps90
  go_wp2
  go_ret
  exact ⟨rfl, hB⟩
theorem add_signs {x y : Int} {n m : Bool} (hx : decide (x < 0) = n) (hy : decide (y < 0) = m) : (n = m -> signed n (x.natAbs + y.natAbs) = x + y) /\ (n ≠ m -> y.natAbs <= x.natAbs -> signed n (x.natAbs - y.natAbs) = x + y) /\ (n ≠ m -> x.natAbs < y.natAbs -> signed m (y.natAbs - x.natAbs) = x + y) := by
 unfold signed
 by_cases h1 : x < 0
 ·rw [decide_eq_true h1] at hx
  by_cases h2 : y < 0
  ·rw [decide_eq_true h2] at hy
   subst hx; subst hy
   simp
   omega
  rw [decide_eq_false h2] at hy
  subst hx; subst hy
  simp
  omega
 rw [decide_eq_false h1] at hx
 by_cases h2 : y < 0
 ·rw [decide_eq_true h2] at hy
  subst hx; subst hy
  simp
  omega
 rw [decide_eq_false h2] at hy
 subst hx; subst hy
 simp
 omega
theorem ref_intAdd (x y : Int) (B : Nat) (V1 V2 : Value) (w : World) (h1 : IsI w B V1 x) (h2 : IsI w B V2 y) (hBB : B <= w.heap.size) (hx : blen x.natAbs <= 274877906944) (hy : blen y.natAbs <= 274877906944) :
  Calls Tryz.prog 129 #[V1, V2] w (RetI (x + y) w) := by
 obtain ⟨n0, A0, l0, c0c, rfl⟩ := h1.shape
 obtain ⟨n9, A9, l9, c9c, rfl⟩ := h2.shape
 obtain ⟨hd1, hn1⟩ := h1.parts
 obtain ⟨hd2, hn2⟩ := h2.parts
 obtain ⟨e1, e2, e3⟩ := add_signs hd1 hd2
 have s1 := limbsZ hx zd
 have s2 := limbsZ hy zd
 have H1 := lh hn1
 have H2 := lh hn2
 have E1 := lh e1
 have E2 := lh e2
 have E3 := lh e3
 clear h1 h2 hn1 hn2 hd1 hd2 e1 e2 e3 hx hy
 have b0 := ((Blk.new w  68 #[.bool n0, .slice A0 l0 c0c]).alloc (.cells #[.bool n9, .slice A9 l9 c9c] 68)).alloc (.cells #[.bool false, .slice none 0 0] 68); have b1 := (Blk.new2 w (.cells #[.bool n0, .slice A0 l0 c0c] 68) 68 #[.bool n9, .slice A9 l9 c9c]).alloc (.cells #[.bool false, .slice none 0 0] 68); have b2 := Blk.new3 w (.cells #[.bool n0, .slice A0 l0 c0c] 68) (.cells #[.bool n9, .slice A9 l9 c9c] 68) 68 #[.bool false, .slice none 0 0]; have hB := balloc3 w (.cells #[.bool n0, .slice A0 l0 c0c] 68) (.cells #[.bool n9, .slice A9 l9 c9c] 68) (.cells #[.bool false, .slice none 0 0] 68); have hZ := lh (show (((w.alloc (.cells #[.bool n0, .slice A0 l0 c0c] 68)).alloc (.cells #[.bool n9, .slice A9 l9 c9c] 68)).alloc (.cells #[.bool false, .slice none 0 0] 68)).heap.size = w.heap.size + 1 + 1 + 1 from by simp)
 have ne1 : ¬ w.heap.size = w.heap.size + 1 + 1 := by omega
 have ne2 : ¬ w.heap.size + 1 = w.heap.size + 1 + 1 := by omega
 have ne3 : ¬ w.heap.size + 1 + 1 = w.heap.size := by omega
 have ne4 : ¬ w.heap.size + 1 + 1 = w.heap.size + 1 := by omega
 go_enter Tryz.func129, Tryz.ntmps129
 go_upto_region 1 with fail
 generalize (((w.alloc (.cells #[.bool n0, .slice A0 l0 c0c] 68)).alloc (.cells #[.bool n9, .slice A9 l9 c9c] 68)).alloc (.cells #[.bool false, .slice none 0 0] 68)) = W at *
 have hBW : B <= W.heap.size := nt hBB hB.size
 have g1 : ∀ w', Below W.heap.size W w' -> IsN w' B (.slice A0 l0 c0c) x.natAbs := fun w' hb => (H1.out.next hBB hB).next hBW hb
 have g2 : ∀ w', Below W.heap.size W w' -> IsN w' B (.slice A9 l9 c9c) y.natAbs := fun w' hb => (H2.out.next hBB hB).next hBW hb
 have ha : ∀ w', Below W.heap.size W w' -> Calls Tryz.prog 159 #[.slice A0 l0 c0c, .slice A9 l9 c9c] w' (RetN (x.natAbs + y.natAbs) w') := fun w' hb => ref_natAdd _ _ B _ _ w' (g1 w' hb) (g2 w' hb) (nt hBW hb.size) (by omega) (by omega)
 have hcp : ∀ w', Below W.heap.size W w' -> Calls Tryz.prog 70 #[.slice A0 l0 c0c, .slice A9 l9 c9c] w' (Ret (.int .i64 (cmpI x.natAbs y.natAbs)) w') := fun w' hb => ref_cmp _ _ B B _ _ w' (g1 w' hb) (g2 w' hb) (by omega) (by omega)
 have hs1 : y.natAbs <= x.natAbs -> ∀ w', Below W.heap.size W w' -> Calls Tryz.prog 160 #[.slice A0 l0 c0c, .slice A9 l9 c9c] w' (RetN (x.natAbs - y.natAbs) w') := fun hle w' hb => ref_natSub _ _ B _ _ w' (g1 w' hb) (g2 w' hb) (nt hBW hb.size) (by omega) hle
 have hs2 : x.natAbs <= y.natAbs -> ∀ w', Below W.heap.size W w' -> Calls Tryz.prog 160 #[.slice A9 l9 c9c, .slice A0 l0 c0c] w' (RetN (y.natAbs - x.natAbs) w') := fun hle w' hb => ref_natSub _ _ B _ _ w' (g2 w' hb) (g1 w' hb) (nt hBW hb.size) (by omega) hle
 generalize hxn : x.natAbs = X at *
 generalize hyn : y.natAbs = Y at *
 have HA := lh ha
 have HC := lh hcp
 have HS1 := lh hs1
 have HS2 := lh hs2
 clear ha hcp hs1 hs2 g1 g2 hxn hyn H1 H2
 by_cases hne : n0 = n9
 ·subst hne
  have hnn : (n0 == n0) = true := by simp
  obtain ⟨b0q0, b0q1⟩ := b0.c2; obtain ⟨b1q0, b1q1⟩ := b1.c2
  have EI := lh (E1.out rfl)
  clear E1 E2 E3
  go_wp2_with fail
  obtain ⟨b0q0, b0q1⟩ := b0.c2; have c0 := b0.drew; have c0l := c0.lt; obtain ⟨b1q0, b1q1⟩ := b1.c2; have c1 := b1.drew; have c1l := c1.lt; have c2 := b2.drew; have c2l := c2.lt; have hc := bdrew0 W; go_region_held3 (fun w' => w'.cell? ⟨w.heap.size, 0, none⟩ = some (.bool n0) /\ w'.cell? ⟨w.heap.size, 1, none⟩ = some (.slice A0 l0 c0c) /\ w'.cell? ⟨w.heap.size + 1, 0, none⟩ = some (.bool n0) /\ w'.cell? ⟨w.heap.size + 1, 1, none⟩ = some (.slice A9 l9 c9c)) (go_keep) (first | (go_at_call 159; (with_reducible refine (HA.out _ hc).mono ?_); rintro e w1 ⟨v1, rfl, hR1, hw1⟩; obtain ⟨A1, l1, c1c, hv1⟩ := hR1.form; subst hv1; have c0 := c0.below hw1 c0.lt; (try clear c0q0 c0q1); obtain ⟨c0q0, c0q1⟩ := c0.c2; (try clear c0l); have c0l := c0.lt; have c1 := c1.below hw1 c1.lt; (try clear c1q0 c1q1); obtain ⟨c1q0, c1q1⟩ := c1.c2; (try clear c1l); have c1l := c1.lt; have c2 := c2.below hw1 c2.lt; (try clear c2l); have c2l := c2.lt; have hc := bthen hc hw1) | (go_at_call 115; (with_reducible refine (ref_mkI n0 (X + Y) _ _ _ hR1 zd).mono ?_); rintro e w2 ⟨v2, rfl, hR2, hw2⟩; obtain ⟨g2, A2, l2, c2c, hv2⟩ := hR2.shape; subst hv2; have c0 := c0.below hw2 c0.lt; (try clear c0q0 c0q1); obtain ⟨c0q0, c0q1⟩ := c0.c2; (try clear c0l); have c0l := c0.lt; have c1 := c1.below hw2 c1.lt; (try clear c1q0 c1q1); obtain ⟨c1q0, c1q1⟩ := c1.c2; (try clear c1l); have c1l := c1.lt; have c2 := c2.below hw2 c2.lt; (try clear c2l); have c2l := c2.lt; have hR1 := (hR1.next zd hw2).more hw2.size; have hc := bthen hc hw2; obtain ⟨c2q0, c2q1, c2f0, c2f1, c2s0, c2s1⟩ := c2.f2))
  all_goals
   go_wp2
   refine bodyPost_ret (v := .agg #[.bool g2, .slice A2 l2 c2c]) (by simp [results, Tryz.results129, go_sem, c2s0, c2s1]) rfl ?_
   rw [<- EI.out]
   exact retI_done hB hc hR2 c2 (by omega)
 have hnn : (n0 == n9) = false := by simpa using hne
 obtain ⟨b0q0, b0q1⟩ := b0.c2; obtain ⟨b1q0, b1q1⟩ := b1.c2
 by_cases hlt : X < Y
 ·have EI := lh (E3.out hne hlt)
  have hcv : cmpI X Y = -1 := cmpI_lt hlt
  rw [hcv] at HC
  have HS := lh (HS2.out (Nat.le_of_lt hlt))
  clear E1 E2 E3 hcv hne HS1 HS2 hlt
  go_wp2_with fail
  refine (HC.out _ (Below.refl _ _)).mono ?_
  rintro e w5 ⟨rfl, hw5⟩
  have b0 := b0.below hw5 b0.lt
  have b1 := b1.below hw5 b1.lt
  have b2 := b2.below hw5 b2.lt
  have hB5 := bthen hB hw5
  have HS' : Hid (∀ w', Below w5.heap.size w5 w' -> Calls Tryz.prog 160 #[.slice A9 l9 c9c, .slice A0 l0 c0c] w' (RetN (Y - X) w')) := lh fun w' hb => HS.out w' (bthen hw5 hb)
  clear b0q0 b0q1 b1q0 b1q1 HS
  obtain ⟨b0q0, b0q1⟩ := b0.c2; obtain ⟨b1q0, b1q1⟩ := b1.c2
  go_wp2_with fail
  obtain ⟨b0q0, b0q1⟩ := b0.c2; have c0 := b0.drew; have c0l := c0.lt; obtain ⟨b1q0, b1q1⟩ := b1.c2; have c1 := b1.drew; have c1l := c1.lt; have c2 := b2.drew; have c2l := c2.lt; have hc := bdrew0 w5; go_region_held3 (fun w' => w'.cell? ⟨w.heap.size, 0, none⟩ = some (.bool n0) /\ w'.cell? ⟨w.heap.size, 1, none⟩ = some (.slice A0 l0 c0c) /\ w'.cell? ⟨w.heap.size + 1, 0, none⟩ = some (.bool n9) /\ w'.cell? ⟨w.heap.size + 1, 1, none⟩ = some (.slice A9 l9 c9c)) (go_keep) (first | (go_at_call 160; (with_reducible refine (HS'.out _ hc).mono ?_); rintro e w1 ⟨v1, rfl, hR1, hw1⟩; obtain ⟨A1, l1, c1c, hv1⟩ := hR1.form; subst hv1; have c0 := c0.below hw1 c0.lt; (try clear c0q0 c0q1); obtain ⟨c0q0, c0q1⟩ := c0.c2; (try clear c0l); have c0l := c0.lt; have c1 := c1.below hw1 c1.lt; (try clear c1q0 c1q1); obtain ⟨c1q0, c1q1⟩ := c1.c2; (try clear c1l); have c1l := c1.lt; have c2 := c2.below hw1 c2.lt; (try clear c2l); have c2l := c2.lt; have hc := bthen hc hw1) | (go_at_call 115; (with_reducible refine (ref_mkI n9 (Y - X) _ _ _ hR1 zd).mono ?_); rintro e w2 ⟨v2, rfl, hR2, hw2⟩; obtain ⟨g2, A2, l2, c2c, hv2⟩ := hR2.shape; subst hv2; have c0 := c0.below hw2 c0.lt; (try clear c0q0 c0q1); obtain ⟨c0q0, c0q1⟩ := c0.c2; (try clear c0l); have c0l := c0.lt; have c1 := c1.below hw2 c1.lt; (try clear c1q0 c1q1); obtain ⟨c1q0, c1q1⟩ := c1.c2; (try clear c1l); have c1l := c1.lt; have c2 := c2.below hw2 c2.lt; (try clear c2l); have c2l := c2.lt; have hR1 := (hR1.next zd hw2).more hw2.size; have hc := bthen hc hw2; obtain ⟨c2q0, c2q1, c2f0, c2f1, c2s0, c2s1⟩ := c2.f2))
  all_goals
   go_wp2
   refine bodyPost_ret (v := .agg #[.bool g2, .slice A2 l2 c2c]) (by simp [results, Tryz.results129, go_sem, c2s0, c2s1]) rfl ?_
   rw [<- EI.out]
   exact retI_done hB5 hc hR2 c2 (by omega)
 have EI := lh (E2.out hne (by omega))
 have hcv : 0 <= cmpI X Y := by unfold cmpI; rw [if_neg hlt]; split <;> omega
 have HS := lh (HS1.out (by omega))
 generalize cmpI X Y = cv at *
 clear E1 E2 E3 hne HS1 HS2 hlt
 go_wp2_with fail
 refine (HC.out _ (Below.refl _ _)).mono ?_
 rintro e w5 ⟨rfl, hw5⟩
 have b0 := b0.below hw5 b0.lt
 have b1 := b1.below hw5 b1.lt
 have b2 := b2.below hw5 b2.lt
 have hB5 := bthen hB hw5
 have HS' : Hid (∀ w', Below w5.heap.size w5 w' -> Calls Tryz.prog 160 #[.slice A0 l0 c0c, .slice A9 l9 c9c] w' (RetN (X - Y) w')) := lh fun w' hb => HS.out w' (bthen hw5 hb)
 clear b0q0 b0q1 b1q0 b1q1 HS
 obtain ⟨b0q0, b0q1⟩ := b0.c2; obtain ⟨b1q0, b1q1⟩ := b1.c2
 go_wp2_with fail
 obtain ⟨b0q0, b0q1⟩ := b0.c2; have c0 := b0.drew; have c0l := c0.lt; obtain ⟨b1q0, b1q1⟩ := b1.c2; have c1 := b1.drew; have c1l := c1.lt; have c2 := b2.drew; have c2l := c2.lt; have hc := bdrew0 w5; go_region_held3 (fun w' => w'.cell? ⟨w.heap.size, 0, none⟩ = some (.bool n0) /\ w'.cell? ⟨w.heap.size, 1, none⟩ = some (.slice A0 l0 c0c) /\ w'.cell? ⟨w.heap.size + 1, 0, none⟩ = some (.bool n9) /\ w'.cell? ⟨w.heap.size + 1, 1, none⟩ = some (.slice A9 l9 c9c)) (go_keep) (first | (go_at_call 160; (with_reducible refine (HS'.out _ hc).mono ?_); rintro e w1 ⟨v1, rfl, hR1, hw1⟩; obtain ⟨A1, l1, c1c, hv1⟩ := hR1.form; subst hv1; have c0 := c0.below hw1 c0.lt; (try clear c0q0 c0q1); obtain ⟨c0q0, c0q1⟩ := c0.c2; (try clear c0l); have c0l := c0.lt; have c1 := c1.below hw1 c1.lt; (try clear c1q0 c1q1); obtain ⟨c1q0, c1q1⟩ := c1.c2; (try clear c1l); have c1l := c1.lt; have c2 := c2.below hw1 c2.lt; (try clear c2l); have c2l := c2.lt; have hc := bthen hc hw1) | (go_at_call 115; (with_reducible refine (ref_mkI n0 (X - Y) _ _ _ hR1 zd).mono ?_); rintro e w2 ⟨v2, rfl, hR2, hw2⟩; obtain ⟨g2, A2, l2, c2c, hv2⟩ := hR2.shape; subst hv2; have c0 := c0.below hw2 c0.lt; (try clear c0q0 c0q1); obtain ⟨c0q0, c0q1⟩ := c0.c2; (try clear c0l); have c0l := c0.lt; have c1 := c1.below hw2 c1.lt; (try clear c1q0 c1q1); obtain ⟨c1q0, c1q1⟩ := c1.c2; (try clear c1l); have c1l := c1.lt; have c2 := c2.below hw2 c2.lt; (try clear c2l); have c2l := c2.lt; have hR1 := (hR1.next zd hw2).more hw2.size; have hc := bthen hc hw2; obtain ⟨c2q0, c2q1, c2f0, c2f1, c2s0, c2s1⟩ := c2.f2))
 all_goals
  go_wp2
  refine bodyPost_ret (v := .agg #[.bool g2, .slice A2 l2 c2c]) (by simp [results, Tryz.results129, go_sem, c2s0, c2s1]) rfl ?_
  rw [<- EI.out]
  exact retI_done hB5 hc hR2 c2 (by omega)
theorem ref_intSub (x y : Int) (B : Nat) (V1 V2 : Value) (w : World) (h1 : IsI w B V1 x) (h2 : IsI w B V2 y) (hBB : B <= w.heap.size) (hx : blen x.natAbs <= 274877906944) (hy : blen y.natAbs <= 274877906944) :
  Calls Tryz.prog 126 #[V1, V2] w (RetI (x - y) w) := by
 obtain ⟨n0, A0, l0, c0c, rfl⟩ := h1.shape
 obtain ⟨n9, A9, l9, c9c, rfl⟩ := h2.shape
 have H1 := lh h1
 have H2 := lh h2
 clear h1 h2
 have hyn : blen (-y).natAbs <= 274877906944 := by rw [Int.natAbs_neg]; exact hy
 have b0 := ((Blk.new w  68 #[.bool n0, .slice A0 l0 c0c]).alloc (.cells #[.bool n9, .slice A9 l9 c9c] 68)).alloc (.cells #[.bool false, .slice none 0 0] 68); have b1 := (Blk.new2 w (.cells #[.bool n0, .slice A0 l0 c0c] 68) 68 #[.bool n9, .slice A9 l9 c9c]).alloc (.cells #[.bool false, .slice none 0 0] 68); have b2 := Blk.new3 w (.cells #[.bool n0, .slice A0 l0 c0c] 68) (.cells #[.bool n9, .slice A9 l9 c9c] 68) 68 #[.bool false, .slice none 0 0]; have hB := balloc3 w (.cells #[.bool n0, .slice A0 l0 c0c] 68) (.cells #[.bool n9, .slice A9 l9 c9c] 68) (.cells #[.bool false, .slice none 0 0] 68); have hZ := lh (show (((w.alloc (.cells #[.bool n0, .slice A0 l0 c0c] 68)).alloc (.cells #[.bool n9, .slice A9 l9 c9c] 68)).alloc (.cells #[.bool false, .slice none 0 0] 68)).heap.size = w.heap.size + 1 + 1 + 1 from by simp)
 have ne1 : ¬ w.heap.size = w.heap.size + 1 + 1 := by omega
 have ne2 : ¬ w.heap.size + 1 = w.heap.size + 1 + 1 := by omega
 have ne3 : ¬ w.heap.size + 1 + 1 = w.heap.size := by omega
 have ne4 : ¬ w.heap.size + 1 + 1 = w.heap.size + 1 := by omega
 go_enter Tryz.func126, Tryz.ntmps126
 go_upto_region 1 with fail
 generalize (((w.alloc (.cells #[.bool n0, .slice A0 l0 c0c] 68)).alloc (.cells #[.bool n9, .slice A9 l9 c9c] 68)).alloc (.cells #[.bool false, .slice none 0 0] 68)) = W at *
 have hBW : B <= W.heap.size := nt hBB hB.size
 have g1 : ∀ w', Below W.heap.size W w' -> IsI w' w'.heap.size (.agg #[.bool n0, .slice A0 l0 c0c]) x := fun w' hb => ((H1.out.next hBB hB).next hBW hb).more (nt hBW hb.size)
 have g2 : ∀ w', Below W.heap.size W w' -> Calls Tryz.prog 158 #[.agg #[.bool n9, .slice A9 l9 c9c]] w' (RetI (-y) w') := fun w' hb => ref_intNeg y B _ w' ((H2.out.next hBB hB).next hBW hb) (nt hBW hb.size)
 have G1 := lh g1
 have G2 := lh g2
 clear g1 g2 H1 H2
 obtain ⟨b0q0, b0q1⟩ := b0.c2; obtain ⟨b1q0, b1q1⟩ := b1.c2
 obtain ⟨b0q0, b0q1⟩ := b0.c2; have c0 := b0.drew; have c0l := c0.lt; obtain ⟨b1q0, b1q1⟩ := b1.c2; have c1 := b1.drew; have c1l := c1.lt; have c2 := b2.drew; have c2l := c2.lt; have hc := bdrew0 W; go_region_held3 (fun w' => w'.cell? ⟨w.heap.size, 0, none⟩ = some (.bool n0) /\ w'.cell? ⟨w.heap.size, 1, none⟩ = some (.slice A0 l0 c0c) /\ w'.cell? ⟨w.heap.size + 1, 0, none⟩ = some (.bool n9) /\ w'.cell? ⟨w.heap.size + 1, 1, none⟩ = some (.slice A9 l9 c9c)) (go_keep) (first | (go_at_call 158; (with_reducible refine (G2.out _ hc).mono ?_); rintro e w1 ⟨v1, rfl, hR1, hw1⟩; obtain ⟨g1, A1, l1, c1c, hv1⟩ := hR1.shape; subst hv1; have c0 := c0.below hw1 c0.lt; (try clear c0q0 c0q1); obtain ⟨c0q0, c0q1⟩ := c0.c2; (try clear c0l); have c0l := c0.lt; have c1 := c1.below hw1 c1.lt; (try clear c1q0 c1q1); obtain ⟨c1q0, c1q1⟩ := c1.c2; (try clear c1l); have c1l := c1.lt; have c2 := c2.below hw1 c2.lt; (try clear c2l); have c2l := c2.lt; have hc := bthen hc hw1) | (go_at_call 129; (with_reducible refine (ref_intAdd x (-y) _ _ _ _ (G1.out _ hc) hR1 zd hx hyn).mono ?_); rintro e w2 ⟨v2, rfl, hR2, hw2⟩; obtain ⟨g2, A2, l2, c2c, hv2⟩ := hR2.shape; subst hv2; have c0 := c0.below hw2 c0.lt; (try clear c0q0 c0q1); obtain ⟨c0q0, c0q1⟩ := c0.c2; (try clear c0l); have c0l := c0.lt; have c1 := c1.below hw2 c1.lt; (try clear c1q0 c1q1); obtain ⟨c1q0, c1q1⟩ := c1.c2; (try clear c1l); have c1l := c1.lt; have c2 := c2.below hw2 c2.lt; (try clear c2l); have c2l := c2.lt; have hR1 := (hR1.next zd hw2).more hw2.size; have hc := bthen hc hw2; obtain ⟨c2q0, c2q1, c2f0, c2f1, c2s0, c2s1⟩ := c2.f2))
 all_goals
  go_wp2
  refine bodyPost_ret (v := .agg #[.bool g2, .slice A2 l2 c2c]) (by simp [results, Tryz.results126, go_sem, c2s0, c2s1]) rfl ?_
  exact retI_done hB hc hR2 c2 (by omega)
theorem mul_signs {x y : Int} {n m : Bool} (hx : decide (x < 0) = n) (hy : decide (y < 0) = m) : signed (!(n == m)) (x.natAbs * y.natAbs) = x * y := by
 subst hx
 subst hy
 exact signed_mul _ _
theorem ref_intMul (x y : Int) (B : Nat) (V1 V2 : Value) (w : World) (h1 : IsI w B V1 x) (h2 : IsI w B V2 y) (hBB : B <= w.heap.size) (hx : blen x.natAbs <= 274877906944) (hy : blen y.natAbs <= 274877906944) :
  Calls Tryz.prog 92 #[V1, V2] w (RetI (x * y) w) := by
 obtain ⟨n0, A0, l0, c0c, rfl⟩ := h1.shape
 obtain ⟨n9, A9, l9, c9c, rfl⟩ := h2.shape
 obtain ⟨hd1, hn1⟩ := h1.parts
 obtain ⟨hd2, hn2⟩ := h2.parts
 have hsg := mul_signs hd1 hd2
 have s1 := limbsZ hx zd
 have s2 := limbsZ hy zd
 have H1 := lh hn1
 have H2 := lh hn2
 clear h1 h2 hn1 hn2 hd1 hd2 hx hy
 have b0 := ((Blk.new w  68 #[.bool n0, .slice A0 l0 c0c]).alloc (.cells #[.bool n9, .slice A9 l9 c9c] 68)).alloc (.cells #[.bool false, .slice none 0 0] 68); have b1 := (Blk.new2 w (.cells #[.bool n0, .slice A0 l0 c0c] 68) 68 #[.bool n9, .slice A9 l9 c9c]).alloc (.cells #[.bool false, .slice none 0 0] 68); have b2 := Blk.new3 w (.cells #[.bool n0, .slice A0 l0 c0c] 68) (.cells #[.bool n9, .slice A9 l9 c9c] 68) 68 #[.bool false, .slice none 0 0]; have hB := balloc3 w (.cells #[.bool n0, .slice A0 l0 c0c] 68) (.cells #[.bool n9, .slice A9 l9 c9c] 68) (.cells #[.bool false, .slice none 0 0] 68); have hZ := lh (show (((w.alloc (.cells #[.bool n0, .slice A0 l0 c0c] 68)).alloc (.cells #[.bool n9, .slice A9 l9 c9c] 68)).alloc (.cells #[.bool false, .slice none 0 0] 68)).heap.size = w.heap.size + 1 + 1 + 1 from by simp)
 have ne1 : ¬ w.heap.size = w.heap.size + 1 + 1 := by omega
 have ne2 : ¬ w.heap.size + 1 = w.heap.size + 1 + 1 := by omega
 have ne3 : ¬ w.heap.size + 1 + 1 = w.heap.size := by omega
 have ne4 : ¬ w.heap.size + 1 + 1 = w.heap.size + 1 := by omega
 go_enter Tryz.func92, Tryz.ntmps92
 go_upto_region 1 with fail
 generalize (((w.alloc (.cells #[.bool n0, .slice A0 l0 c0c] 68)).alloc (.cells #[.bool n9, .slice A9 l9 c9c] 68)).alloc (.cells #[.bool false, .slice none 0 0] 68)) = W at *
 have hBW : B <= W.heap.size := nt hBB hB.size
 have ha : ∀ w', Below W.heap.size W w' -> Calls Tryz.prog 127 #[.slice A0 l0 c0c, .slice A9 l9 c9c] w' (RetN (x.natAbs * y.natAbs) w') := fun w' hb => ref_natMul _ _ B _ _ w' ((H1.out.next hBB hB).next hBW hb) ((H2.out.next hBB hB).next hBW hb) (nt hBW hb.size) (by omega) (by omega)
 generalize x.natAbs * y.natAbs = P at *
 have hmi : ∀ w' v, IsN w' w'.heap.size v P -> Calls Tryz.prog 115 #[.bool (!(n0 == n9)), v] w' (RetI (x * y) w') := fun w' v hv => by
  have := ref_mkI (!(n0 == n9)) P _ v w' hv zd
  rw [hsg] at this
  exact this
 have HA := lh ha
 have HM := lh hmi
 clear ha hmi hsg H1 H2
 obtain ⟨b0q0, b0q1⟩ := b0.c2; obtain ⟨b1q0, b1q1⟩ := b1.c2
 obtain ⟨b0q0, b0q1⟩ := b0.c2; have c0 := b0.drew; have c0l := c0.lt; obtain ⟨b1q0, b1q1⟩ := b1.c2; have c1 := b1.drew; have c1l := c1.lt; have c2 := b2.drew; have c2l := c2.lt; have hc := bdrew0 W; go_region_held3 (fun w' => w'.cell? ⟨w.heap.size, 0, none⟩ = some (.bool n0) /\ w'.cell? ⟨w.heap.size, 1, none⟩ = some (.slice A0 l0 c0c) /\ w'.cell? ⟨w.heap.size + 1, 0, none⟩ = some (.bool n9) /\ w'.cell? ⟨w.heap.size + 1, 1, none⟩ = some (.slice A9 l9 c9c)) (go_keep) (first | (go_at_call 127; (with_reducible refine (HA.out _ hc).mono ?_); rintro e w1 ⟨v1, rfl, hR1, hw1⟩; obtain ⟨A1, l1, c1c, hv1⟩ := hR1.form; subst hv1; have c0 := c0.below hw1 c0.lt; (try clear c0q0 c0q1); obtain ⟨c0q0, c0q1⟩ := c0.c2; (try clear c0l); have c0l := c0.lt; have c1 := c1.below hw1 c1.lt; (try clear c1q0 c1q1); obtain ⟨c1q0, c1q1⟩ := c1.c2; (try clear c1l); have c1l := c1.lt; have c2 := c2.below hw1 c2.lt; (try clear c2l); have c2l := c2.lt; have hc := bthen hc hw1) | (go_at_call 115; (with_reducible refine (HM.out _ _ hR1).mono ?_); rintro e w2 ⟨v2, rfl, hR2, hw2⟩; obtain ⟨g2, A2, l2, c2c, hv2⟩ := hR2.shape; subst hv2; have c0 := c0.below hw2 c0.lt; (try clear c0q0 c0q1); obtain ⟨c0q0, c0q1⟩ := c0.c2; (try clear c0l); have c0l := c0.lt; have c1 := c1.below hw2 c1.lt; (try clear c1q0 c1q1); obtain ⟨c1q0, c1q1⟩ := c1.c2; (try clear c1l); have c1l := c1.lt; have c2 := c2.below hw2 c2.lt; (try clear c2l); have c2l := c2.lt; have hR1 := (hR1.next zd hw2).more hw2.size; have hc := bthen hc hw2; obtain ⟨c2q0, c2q1, c2f0, c2f1, c2s0, c2s1⟩ := c2.f2))
 all_goals
  go_wp2
  refine bodyPost_ret (v := .agg #[.bool g2, .slice A2 l2 c2c]) (by simp [results, Tryz.results92, go_sem, c2s0, c2s1]) rfl ?_
  exact retI_done hB hc hR2 c2 (by omega)
theorem ref_intCmp (x y : Int) (B : Nat) (V1 V2 : Value) (w : World) (h1 : IsI w B V1 x) (h2 : IsI w B V2 y) (hBB : B <= w.heap.size) (hx : blen x.natAbs <= 274877906944) (hy : blen y.natAbs <= 274877906944) :
  Calls Tryz.prog 91 #[V1, V2] w (Ret (.int .i64 (x - y).sign) w) := by
 obtain ⟨n0, A0, l0, c0c, rfl⟩ := h1.shape
 obtain ⟨n9, A9, l9, c9c, rfl⟩ := h2.shape
 have H1 := lh h1
 have H2 := lh h2
 clear h1 h2
 have b0 := (Blk.new w  68 #[.bool n0, .slice A0 l0 c0c]).alloc (.cells #[.bool n9, .slice A9 l9 c9c] 68); have b1 := Blk.new2 w (.cells #[.bool n0, .slice A0 l0 c0c] 68) 68 #[.bool n9, .slice A9 l9 c9c]; have hB := balloc2 w (.cells #[.bool n0, .slice A0 l0 c0c] 68) (.cells #[.bool n9, .slice A9 l9 c9c] 68); have hZ := lh (show ((w.alloc (.cells #[.bool n0, .slice A0 l0 c0c] 68)).alloc (.cells #[.bool n9, .slice A9 l9 c9c] 68)).heap.size = w.heap.size + 1 + 1 from by simp)
 go_enter Tryz.func91, Tryz.ntmps91
 go_wp2_with fail
 generalize ((w.alloc (.cells #[.bool n0, .slice A0 l0 c0c] 68)).alloc (.cells #[.bool n9, .slice A9 l9 c9c] 68)) = W at *
 have hBW : B <= W.heap.size := nt hBB hB.size
 have hsub := ref_intSub x y B _ _ W (H1.out.next hBB hB) (H2.out.next hBB hB) hBW hx hy
 generalize x - y = z at *
 have HS := lh hsub
 clear hsub H1 H2
 refine HS.out.mono ?_
 rintro e w1 ⟨v1, rfl, hR1, hw1⟩
 obtain ⟨g1, A1, l1, c1, rfl⟩ := hR1.shape
 go_wp2_with fail
 refine (ref_intSign z _ _ w1 hR1).mono ?_
 rintro e w2 ⟨rfl, hw2⟩
 go_wp2
 go_ret
 exact ⟨rfl, bthen (bthen hB hw1) hw2⟩
theorem ref_intOf (z : Int) (w : World) (h0 : -9223372036854775808 <= z) (h1 : z <= 9223372036854775807) : Calls Tryz.prog 77 #[.int .i64 z] w (RetI z w) := by
 have b0 := Blk.new w 68 #[.bool false, .slice none 0 0]
 have hB := balloc1 w (.cells #[.bool false, .slice none 0 0] 68)
 have hzs := b0.lt
 by_cases hz : z < 0
 ·obtain ⟨a, ha⟩ : ∃ a : Nat, (a : Int) = -z := ⟨z.natAbs, by omega⟩
  have e1 : IntKind.u64.wrap (-(IntKind.u64.wrap z)) = (a : Int) := by
   simp only [IntKind.wrap, IntKind.bits, IntKind.signed]
   simp
   omega
  have hal : a < 18446744073709551616 := by omega
  have hsg : signed true a = z := by unfold signed; simp; omega
  have hdz : decide (z < 0) = true := decide_eq_true hz
  have HM : Hid (∀ w' v, IsN w' w'.heap.size v a -> Calls Tryz.prog 115 #[.bool true, v] w' (RetI z w')) := lh fun w' v hv => by
   have := ref_mkI true a _ v w' hv zd
   rw [hsg] at this
   exact this
  clear hsg ha
  go_enter Tryz.func77, Tryz.ntmps77
  go_wp2_with fail
  generalize w.alloc (.cells #[.bool false, .slice none 0 0] 68) = W at *
  refine (ref_natOf a W hal).mono ?_
  rintro e w1 ⟨v1, rfl, hR1, hw1⟩
  obtain ⟨A1, l1, c1, rfl⟩ := hR1.form
  have b0 := b0.below hw1 hzs
  go_wp2_with fail
  refine (HM.out _ _ hR1).mono ?_
  rintro e w2 ⟨v2, rfl, hR2, hw2⟩
  obtain ⟨g2, A2, l2, c2, rfl⟩ := hR2.shape
  have c2 := b0.below hw2 b0.lt
  obtain ⟨c2q0, c2q1, c2f0, c2f1, c2s0, c2s1⟩ := c2.f2
  go_wp2
  refine bodyPost_ret (v := .agg #[.bool g2, .slice A2 l2 _]) (by simp [results, Tryz.results77, go_sem, c2s0, c2s1]; rfl) rfl ?_
  exact retI_done hB (bthen hw1 hw2) hR2 c2 (by omega)
 obtain ⟨a, ha⟩ : ∃ a : Nat, (a : Int) = z := ⟨z.natAbs, by omega⟩
 subst ha
 have hal : a < 18446744073709551616 := by omega
 have e1 : IntKind.u64.wrap (a : Int) = (a : Int) := by rw [wrap_u64_of _ (by omega) (by omega)]
 have HM : Hid (∀ w' v, IsN w' w'.heap.size v a -> Calls Tryz.prog 115 #[.bool false, v] w' (RetI (a : Int) w')) := lh fun w' v hv => ref_mkI false a _ v w' hv zd
 go_enter Tryz.func77, Tryz.ntmps77
 go_wp2_with fail
 generalize w.alloc (.cells #[.bool false, .slice none 0 0] 68) = W at *
 refine (ref_natOf a W hal).mono ?_
 rintro e w1 ⟨v1, rfl, hR1, hw1⟩
 obtain ⟨A1, l1, c1, rfl⟩ := hR1.form
 have b0 := b0.below hw1 hzs
 go_wp2_with fail
 refine (HM.out _ _ hR1).mono ?_
 rintro e w2 ⟨v2, rfl, hR2, hw2⟩
 obtain ⟨g2, A2, l2, c2, rfl⟩ := hR2.shape
 have c2 := b0.below hw2 b0.lt
 obtain ⟨c2q0, c2q1, c2f0, c2f1, c2s0, c2s1⟩ := c2.f2
 go_wp2
 refine bodyPost_ret (v := .agg #[.bool g2, .slice A2 l2 _]) (by simp [results, Tryz.results77, go_sem, c2s0, c2s1]; rfl) rfl ?_
 exact retI_done hB (bthen hw1 hw2) hR2 c2 (by omega)
end Go.Proofs.YtecnjlcfoobepaaGreatDoor
