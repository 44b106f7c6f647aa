import Derived.Test.YtacbcaebaomglaaGreatDoorRefAdd
import Derived.Test.YtacbcaebaomglaaGreatDoorRefMake
namespace Go.Proofs.YtacbcaebaomglaaGreatDoor
set_option maxRecDepth 100000
set_option maxHeartbeats 1000000
open Go.RowKit
set_option linter.all false
theorem IsI.shape {w : World} {B : Nat} {V : Value} {z : Int} (h : IsI w B V z) : ∃ g A l c, V = .agg #[.bool g, .slice A l c] := by
 obtain ⟨v, h1, h2⟩ := h
 obtain ⟨A, l, c, rfl⟩ := h2.form
 exact ⟨_, A, l, c, h1⟩
theorem IsQ.shape {w : World} {B : Nat} {V : Value} {q : Rat} (h : IsQ w B V q) : ∃ g A l c A' l' c', V = .agg #[.bool g, .slice A l c, .slice A' l' c'] := by
 obtain ⟨v, v', h1, h2, h3⟩ := h
 obtain ⟨A, l, c, rfl⟩ := h2.form
 obtain ⟨A', l', c', rfl⟩ := h3.form
 exact ⟨_, A, l, c, A', l', c', h1⟩
theorem IsI.parts {w : World} {B : Nat} {g : Bool} {v : Value} {z : Int} (h : IsI w B (.agg #[.bool g, v]) z) : decide (z < 0) = g /\ IsN w B v z.natAbs := by
 obtain ⟨v', h1, h2⟩ := h
 simp at h1
 obtain ⟨rfl, rfl⟩ := h1
 exact ⟨rfl, h2⟩
theorem IsI.of {w : World} {B a : Nat} {g : Bool} {v : Value} {z : Int} (h : IsN w B v z.natAbs) (hg : decide (z < 0) = g) : IsI w B (.agg #[.bool g, v]) z := ⟨v, by rw [hg], h⟩
theorem IsQ.parts {w : World} {B : Nat} {g : Bool} {v v' : Value} {q : Rat} (h : IsQ w B (.agg #[.bool g, v, v']) q) : decide (q.num < 0) = g /\ IsN w B v q.num.natAbs /\ IsN w B v' q.den := by
 obtain ⟨u, u', h1, h2, h3⟩ := h
 simp at h1
 obtain ⟨rfl, rfl, rfl⟩ := h1
 exact ⟨rfl, h2, h3⟩
theorem IsQ.num {w : World} {B : Nat} {g : Bool} {v v' : Value} {q : Rat} (h : IsQ w B (.agg #[.bool g, v, v']) q) : IsI w B (.agg #[.bool g, v]) q.num := by
 obtain ⟨h1, h2, h3⟩ := h.parts
 exact ⟨v, by rw [h1], h2⟩
theorem IsQ.mk {w : World} {B : Nat} {g : Bool} {v v' : Value} {q : Rat} (h : IsI w B (.agg #[.bool g, v]) q.num) (h' : IsN w B v' q.den) : IsQ w B (.agg #[.bool g, v, v']) q := by
 obtain ⟨h1, h2⟩ := h.parts
 exact ⟨v, v', by rw [h1], h2, h'⟩
theorem Zh {w W wn : World} {z : Int} {g l c : Nat} {t : TypeId} {ng : Bool} {A : Option Addr} (hB : Below w.heap.size w W) (hc : Below W.heap.size W wn) (hI : IsI wn wn.heap.size (.agg #[.bool ng, .slice A l c]) z)
  (hr : Blk wn g t #[.bool false, .slice none 0 0]) (hg : w.heap.size <= g) : Jal z w (.returned (.agg #[.bool ng, .slice A l c])) ((wn.setCell ⟨g, 0, none⟩ (.bool ng)).setCell ⟨g, 1, none⟩ (.slice A l c)) := by
 obtain ⟨h1, h2⟩ := hI.parts
 refine ⟨_, rfl, ⟨.slice A l c, by rw [h1], ?_⟩, Za (Ja hB hc) hg _ _⟩
 rw [World.size_setCell, World.size_setCell]
 exact h2.set2 hr (Zl _) (Qv _ _ _) _ _ (Zl _)
theorem Zg {w W wn : World} {q : Rat} {g l c l' c' : Nat} {t : TypeId} {ng : Bool} {A A' : Option Addr} (hB : Below w.heap.size w W) (hc : Below W.heap.size W wn) (hQ : IsQ wn wn.heap.size (.agg #[.bool ng, .slice A l c, .slice A' l' c']) q)
  (hr : Blk wn g t #[.bool false, .slice none 0 0, .slice none 0 0]) (hg : w.heap.size <= g) : Jak q w (.returned (.agg #[.bool ng, .slice A l c, .slice A' l' c'])) (((wn.setCell ⟨g, 0, none⟩ (.bool ng)).setCell ⟨g, 1, none⟩ (.slice A l c)).setCell ⟨g, 2, none⟩ (.slice A' l' c')) := by
 obtain ⟨h1, h2, h3⟩ := hQ.parts
 refine ⟨_, rfl, ⟨.slice A l c, .slice A' l' c', by rw [h1], ?_, ?_⟩, Ki (Ja hB hc) hg _ _ _⟩
 ·rw [World.size_setCell, World.size_setCell, World.size_setCell]
  exact h2.set3 hr (Zl _) (Qv _ _ _) (Qv _ _ _) _ _ _ (Zl _) (Qv _ _ _)
 rw [World.size_setCell, World.size_setCell, World.size_setCell]
 exact h3.set3 hr (Zl _) (Qv _ _ _) (Qv _ _ _) _ _ _ (Zl _) (Qv _ _ _)
theorem Yo {n k : Nat} (h : Je n <= 274877906944) (hk : 8589934592 <= k) : (Jc n).length <= k := nt (Vl n 8589934592 (by omega)) hk
theorem Ym (neg : Bool) (a B : Nat) (va : Value) (w : World) (h : IsN w B va a) (hB : B <= w.heap.size) : Calls Tryz.prog 70 #[.bool neg, va] w (Jal (signed neg a) w) :=
 (Jnx neg a B va w h hB).mono fun e w' ⟨h1, h2⟩ => ⟨_, h1, ⟨va, rfl, by rw [Jdl]; exact (h.next hB h2).more (nt hB h2.size)⟩, h2⟩
theorem Jdp (z : Int) (B : Nat) (V : Value) (w : World) (h : IsI w B V z) (t8 : B <= w.heap.size) : Calls Tryz.prog 184 #[V] w (Jal (-z) w) := by
 obtain ⟨n0, A0, l0, c0c, rfl⟩ := h.shape
 obtain ⟨hd, hn⟩ := h.parts
 have hs : signed (!n0) z.natAbs = -z := by
  unfold signed
  rw [<- hd]
  by_cases h : z < 0
  ·rw [decide_eq_true h]; simp; omega
  rw [decide_eq_false h]; simp; omega
 have H := lh hn
 clear h hn hd
 obtain ⟨b0, b1, hB, hZ⟩ := bx2 w 54 #[.bool n0, .slice A0 l0 c0c] 54 #[.bool false, .slice none 0 0]
 go_enter Tryz.func184, Tryz.ntmps184
 go_wp2_with fail
 generalize ((w.alloc (.cells #[.bool n0, .slice A0 l0 c0c] 54)).alloc (.cells #[.bool false, .slice none 0 0] 54)) = W at *
 have t7 : B <= W.heap.size := nt t8 hB.size
 have aP : ∀ w', Below W.heap.size W w' -> Calls Tryz.prog 70 #[.bool (!n0), .slice A0 l0 c0c] w' (Jal (-z) w') := fun w' hb => by
  have := Ym (!n0) z.natAbs B _ w' ((H.out.next t8 hB).next t7 hb) (nt t7 hb.size)
  rw [hs] at this
  exact this
 have HMK := lh aP
 clear aP hs
 have c0 := b0; have o0 := c0.lt; obtain ⟨e8, e9⟩ := c0.c2; have c1 := b1; have o6 := c1.lt; have hc := Below.refl W.heap.size W; go_wp2_with fail; refine (HMK.out _ hc).mono ?_; rintro e w1 ⟨v1, rfl, j8, j9⟩; obtain ⟨g1, A1, l1, c1c, y8⟩ := j8.shape; subst y8; (try clear e8 e9); obtain ⟨c0, e8, e9⟩ := c0.zc2 j9; (try clear o0); have o0 := c0.lt; have c1 := c1.below j9 c1.lt; (try clear o6); have o6 := c1.lt; have hc := Ja hc j9; obtain ⟨j6, j7, aV, aW, aI, aJ⟩ := c1.f2
 go_wp2
 refine bodyPost_ret (v := .agg #[.bool g1, .slice A1 l1 c1c]) (by simp [results, Tryz.results184, go_sem, aI, aJ]) rfl ?_
 exact Zh hB hc j8 c1 (by omega)
theorem Jhq (z : Int) (B : Nat) (V : Value) (w : World) (h : IsI w B V z) : Calls Tryz.prog 165 #[V] w (Ret (.int .i64 z.sign) w) := by
 obtain ⟨n0, A0, l0, c0c, rfl⟩ := h.shape
 obtain ⟨hd, hn⟩ := h.parts
 have hl : l0 = (Jc z.natAbs).length := by
  obtain ⟨A', c', h1, _⟩ := hn
  injection h1
 have hz := Kn z.natAbs
 rw [<- hl] at hz
 have hs : (l0 = 0 /\ z.sign = 0) \/ (((l0 : Int) == 0) = false /\ n0 = true /\ z.sign = -1) \/ (((l0 : Int) == 0) = false /\ n0 = false /\ z.sign = 1) := by
  rcases Int.lt_trichotomy z 0 with h1 | h1 | h1
  ·right; left
   exact ⟨by simp; omega, by rw [<- hd]; exact decide_eq_true h1, Int.sign_eq_neg_one_of_neg h1⟩
  ·left
   subst h1
   exact ⟨hz.2 rfl, rfl⟩
  right; right
  exact ⟨by simp; omega, by rw [<- hd]; exact decide_eq_false (by omega), Int.sign_eq_one_of_pos h1⟩
 clear h hd hn hl hz
 obtain ⟨b0, hB, hZ⟩ := bx1 w 54 #[.bool n0, .slice A0 l0 c0c]
 rcases hs with ⟨rfl, h2⟩ | ⟨h1, rfl, h2⟩ | ⟨h1, rfl, h2⟩
 all_goals
  rw [h2]
  clear h2
  go_enter Tryz.func165, Tryz.ntmps165
  go_wp2
  go_ret
  exact ⟨rfl, hB⟩
theorem Jle {x y : Int} {n m : Bool} (hx : decide (x < 0) = n) (hy : decide (y < 0) = m) : (n = m -> signed n (x.natAbs + y.natAbs) = x + y) /\ (n ≠ m -> y.natAbs <= x.natAbs -> signed n (x.natAbs - y.natAbs) = x + y) /\ (n ≠ m -> x.natAbs < y.natAbs -> signed m (y.natAbs - x.natAbs) = x + y) := by
 unfold signed
 by_cases h1 : x < 0
 ·rw [decide_eq_true h1] at hx
  by_cases h2 : y < 0
  ·rw [decide_eq_true h2] at hy
   subst hx; subst hy
   simp
   omega
  rw [decide_eq_false h2] at hy
  subst hx; subst hy
  simp
  omega
 rw [decide_eq_false h1] at hx
 by_cases h2 : y < 0
 ·rw [decide_eq_true h2] at hy
  subst hx; subst hy
  simp
  omega
 rw [decide_eq_false h2] at hy
 subst hx; subst hy
 simp
 omega
theorem Jdq (x y : Int) (B : Nat) (V1 V2 : Value) (w : World) (h1 : IsI w B V1 x) (h2 : IsI w B V2 y) (t8 : B <= w.heap.size) (hx : Je x.natAbs <= 274877906944) (hy : Je y.natAbs <= 274877906944) :
  Calls Tryz.prog 135 #[V1, V2] w (Jal (x + y) w) := by
 obtain ⟨n0, A0, l0, c0c, rfl⟩ := h1.shape
 obtain ⟨n9, A9, l9, c9c, rfl⟩ := h2.shape
 obtain ⟨aD, aE⟩ := h1.parts
 obtain ⟨aF, hn2⟩ := h2.parts
 obtain ⟨e1, e2, e3⟩ := Jle aD aF
 have s1 := Yo hx zd
 have s2 := Yo hy zd
 have H1 := lh aE
 have H2 := lh hn2
 have E1 := lh e1
 have E2 := lh e2
 have E3 := lh e3
 clear h1 h2 aE hn2 aD aF e1 e2 e3 hx hy
 obtain ⟨b0, b1, b2, hB, hZ⟩ := bx3 w 54 #[.bool n0, .slice A0 l0 c0c] 54 #[.bool n9, .slice A9 l9 c9c] 54 #[.bool false, .slice none 0 0]
 have ne1 := neA w.heap.size
 have ne2 := neC w.heap.size
 have ne3 := neB w.heap.size
 have ne4 := neD w.heap.size
 go_enter Tryz.func135, Tryz.ntmps135
 go_upto_region 1 with fail
 generalize (((w.alloc (.cells #[.bool n0, .slice A0 l0 c0c] 54)).alloc (.cells #[.bool n9, .slice A9 l9 c9c] 54)).alloc (.cells #[.bool false, .slice none 0 0] 54)) = W at *
 have t7 : B <= W.heap.size := nt t8 hB.size
 have g1 : ∀ w', Below W.heap.size W w' -> IsN w' B (.slice A0 l0 c0c) x.natAbs := fun w' hb => (H1.out.next t8 hB).next t7 hb
 have g2 : ∀ w', Below W.heap.size W w' -> IsN w' B (.slice A9 l9 c9c) y.natAbs := fun w' hb => (H2.out.next t8 hB).next t7 hb
 have ha : ∀ w', Below W.heap.size W w' -> Calls Tryz.prog 170 #[.slice A0 l0 c0c, .slice A9 l9 c9c] w' (Jbm (x.natAbs + y.natAbs) w') := fun w' hb => Jiz _ _ B _ _ w' (g1 w' hb) (g2 w' hb) (nt t7 hb.size) (by omega) (by omega)
 have aQ : ∀ w', Below W.heap.size W w' -> Calls Tryz.prog 92 #[.slice A0 l0 c0c, .slice A9 l9 c9c] w' (Ret (.int .i64 (Qx x.natAbs y.natAbs)) w') := fun w' hb => Jav _ _ B B _ _ w' (g1 w' hb) (g2 w' hb) (by omega) (by omega)
 have aR : y.natAbs <= x.natAbs -> ∀ w', Below W.heap.size W w' -> Calls Tryz.prog 171 #[.slice A0 l0 c0c, .slice A9 l9 c9c] w' (Jbm (x.natAbs - y.natAbs) w') := fun aK w' hb => Jdo _ _ B _ _ w' (g1 w' hb) (g2 w' hb) (nt t7 hb.size) (by omega) aK
 have aS : x.natAbs <= y.natAbs -> ∀ w', Below W.heap.size W w' -> Calls Tryz.prog 171 #[.slice A9 l9 c9c, .slice A0 l0 c0c] w' (Jbm (y.natAbs - x.natAbs) w') := fun aK w' hb => Jdo _ _ B _ _ w' (g2 w' hb) (g1 w' hb) (nt t7 hb.size) (by omega) aK
 generalize hxn : x.natAbs = X at *
 generalize aL : y.natAbs = Y at *
 have HA := lh ha
 have HC := lh aQ
 have HS1 := lh aR
 have HS2 := lh aS
 clear ha aQ aR aS g1 g2 hxn aL H1 H2
 by_cases aB : n0 = n9
 ·subst aB
  have aX : (n0 == n0) = true := by simp
  obtain ⟨o9, p7⟩ := b0.c2; obtain ⟨p8, p9⟩ := b1.c2
  have EI := lh (E1.out rfl)
  clear E1 E2 E3
  go_wp2_with fail
  obtain ⟨o9, p7⟩ := b0.c2; have c0 := b0.drew; have o0 := c0.lt; obtain ⟨p8, p9⟩ := b1.c2; have c1 := b1.drew; have o6 := c1.lt; have c2 := b2.drew; have q8 := c2.lt; have hc := Ji W; go_region_held3 (fun w' => w'.cell? ⟨w.heap.size, 0, none⟩ = some (.bool n0) /\ w'.cell? ⟨w.heap.size, 1, none⟩ = some (.slice A0 l0 c0c) /\ w'.cell? ⟨w.heap.size + 1, 0, none⟩ = some (.bool n0) /\ w'.cell? ⟨w.heap.size + 1, 1, none⟩ = some (.slice A9 l9 c9c)) (go_keep) (first | (go_at_call 170; (with_reducible refine (HA.out _ hc).mono ?_); rintro e w1 ⟨v1, rfl, j8, j9⟩; obtain ⟨A1, l1, c1c, y8⟩ := j8.form; subst y8; (try clear e8 e9); obtain ⟨c0, e8, e9⟩ := c0.zc2 j9; (try clear o0); have o0 := c0.lt; (try clear j6 j7); obtain ⟨c1, j6, j7⟩ := c1.zc2 j9; (try clear o6); have o6 := c1.lt; have c2 := c2.below j9 c2.lt; (try clear q8); have q8 := c2.lt; have hc := Ja hc j9) | (go_at_call 70; (with_reducible refine (Ym n0 (X + Y) _ _ _ j8 zd).mono ?_); rintro e w2 ⟨v2, rfl, s9, j0⟩; obtain ⟨g2, A2, l2, c2c, aA⟩ := s9.shape; subst aA; (try clear e8 e9); obtain ⟨c0, e8, e9⟩ := c0.zc2 j0; (try clear o0); have o0 := c0.lt; (try clear j6 j7); obtain ⟨c1, j6, j7⟩ := c1.zc2 j0; (try clear o6); have o6 := c1.lt; have c2 := c2.below j0 c2.lt; (try clear q8); have q8 := c2.lt; have j8 := (j8.next zd j0).more j0.size; have hc := Ja hc j0; obtain ⟨u4, x7, x8, x9, o7, o8⟩ := c2.f2))
  all_goals
   go_wp2
   refine bodyPost_ret (v := .agg #[.bool g2, .slice A2 l2 c2c]) (by simp [results, Tryz.results135, go_sem, o7, o8]) rfl ?_
   rw [<- EI.out]
   exact Zh hB hc s9 c2 (by omega)
 have aX : (n0 == n9) = false := by simpa using aB
 obtain ⟨o9, p7⟩ := b0.c2; obtain ⟨p8, p9⟩ := b1.c2
 by_cases aC : X < Y
 ·have EI := lh (E3.out aB aC)
  have aM : Qx X Y = -1 := Zu aC
  rw [aM] at HC
  have HS := lh (HS2.out (Nat.le_of_lt aC))
  clear E1 E2 E3 aM aB HS1 HS2 aC
  go_wp2_with fail
  refine (HC.out _ (Below.refl _ _)).mono ?_
  rintro e w5 ⟨rfl, y9⟩
  have b0 := b0.below y9 b0.lt
  have b1 := b1.below y9 b1.lt
  have b2 := b2.below y9 b2.lt
  have aN := Ja hB y9
  have HS' : Hid (∀ w', Below w5.heap.size w5 w' -> Calls Tryz.prog 171 #[.slice A9 l9 c9c, .slice A0 l0 c0c] w' (Jbm (Y - X) w')) := lh fun w' hb => HS.out w' (Ja y9 hb)
  clear o9 p7 p8 p9 HS
  obtain ⟨o9, p7⟩ := b0.c2; obtain ⟨p8, p9⟩ := b1.c2
  go_wp2_with fail
  obtain ⟨o9, p7⟩ := b0.c2; have c0 := b0.drew; have o0 := c0.lt; obtain ⟨p8, p9⟩ := b1.c2; have c1 := b1.drew; have o6 := c1.lt; have c2 := b2.drew; have q8 := c2.lt; have hc := Ji w5; go_region_held3 (fun w' => w'.cell? ⟨w.heap.size, 0, none⟩ = some (.bool n0) /\ w'.cell? ⟨w.heap.size, 1, none⟩ = some (.slice A0 l0 c0c) /\ w'.cell? ⟨w.heap.size + 1, 0, none⟩ = some (.bool n9) /\ w'.cell? ⟨w.heap.size + 1, 1, none⟩ = some (.slice A9 l9 c9c)) (go_keep) (first | (go_at_call 171; (with_reducible refine (HS'.out _ hc).mono ?_); rintro e w1 ⟨v1, rfl, j8, j9⟩; obtain ⟨A1, l1, c1c, y8⟩ := j8.form; subst y8; (try clear e8 e9); obtain ⟨c0, e8, e9⟩ := c0.zc2 j9; (try clear o0); have o0 := c0.lt; (try clear j6 j7); obtain ⟨c1, j6, j7⟩ := c1.zc2 j9; (try clear o6); have o6 := c1.lt; have c2 := c2.below j9 c2.lt; (try clear q8); have q8 := c2.lt; have hc := Ja hc j9) | (go_at_call 70; (with_reducible refine (Ym n9 (Y - X) _ _ _ j8 zd).mono ?_); rintro e w2 ⟨v2, rfl, s9, j0⟩; obtain ⟨g2, A2, l2, c2c, aA⟩ := s9.shape; subst aA; (try clear e8 e9); obtain ⟨c0, e8, e9⟩ := c0.zc2 j0; (try clear o0); have o0 := c0.lt; (try clear j6 j7); obtain ⟨c1, j6, j7⟩ := c1.zc2 j0; (try clear o6); have o6 := c1.lt; have c2 := c2.below j0 c2.lt; (try clear q8); have q8 := c2.lt; have j8 := (j8.next zd j0).more j0.size; have hc := Ja hc j0; obtain ⟨u4, x7, x8, x9, o7, o8⟩ := c2.f2))
  all_goals
   go_wp2
   refine bodyPost_ret (v := .agg #[.bool g2, .slice A2 l2 c2c]) (by simp [results, Tryz.results135, go_sem, o7, o8]) rfl ?_
   rw [<- EI.out]
   exact Zh aN hc s9 c2 (by omega)
 have EI := lh (E2.out aB (by omega))
 have aM : 0 <= Qx X Y := by unfold Qx; rw [if_neg aC]; split <;> omega
 have HS := lh (HS1.out (by omega))
 generalize Qx X Y = cv at *
 clear E1 E2 E3 aB HS1 HS2 aC
 go_wp2_with fail
 refine (HC.out _ (Below.refl _ _)).mono ?_
 rintro e w5 ⟨rfl, y9⟩
 have b0 := b0.below y9 b0.lt
 have b1 := b1.below y9 b1.lt
 have b2 := b2.below y9 b2.lt
 have aN := Ja hB y9
 have HS' : Hid (∀ w', Below w5.heap.size w5 w' -> Calls Tryz.prog 171 #[.slice A0 l0 c0c, .slice A9 l9 c9c] w' (Jbm (X - Y) w')) := lh fun w' hb => HS.out w' (Ja y9 hb)
 clear o9 p7 p8 p9 HS
 obtain ⟨o9, p7⟩ := b0.c2; obtain ⟨p8, p9⟩ := b1.c2
 go_wp2_with fail
 obtain ⟨o9, p7⟩ := b0.c2; have c0 := b0.drew; have o0 := c0.lt; obtain ⟨p8, p9⟩ := b1.c2; have c1 := b1.drew; have o6 := c1.lt; have c2 := b2.drew; have q8 := c2.lt; have hc := Ji w5; go_region_held3 (fun w' => w'.cell? ⟨w.heap.size, 0, none⟩ = some (.bool n0) /\ w'.cell? ⟨w.heap.size, 1, none⟩ = some (.slice A0 l0 c0c) /\ w'.cell? ⟨w.heap.size + 1, 0, none⟩ = some (.bool n9) /\ w'.cell? ⟨w.heap.size + 1, 1, none⟩ = some (.slice A9 l9 c9c)) (go_keep) (first | (go_at_call 171; (with_reducible refine (HS'.out _ hc).mono ?_); rintro e w1 ⟨v1, rfl, j8, j9⟩; obtain ⟨A1, l1, c1c, y8⟩ := j8.form; subst y8; (try clear e8 e9); obtain ⟨c0, e8, e9⟩ := c0.zc2 j9; (try clear o0); have o0 := c0.lt; (try clear j6 j7); obtain ⟨c1, j6, j7⟩ := c1.zc2 j9; (try clear o6); have o6 := c1.lt; have c2 := c2.below j9 c2.lt; (try clear q8); have q8 := c2.lt; have hc := Ja hc j9) | (go_at_call 70; (with_reducible refine (Ym n0 (X - Y) _ _ _ j8 zd).mono ?_); rintro e w2 ⟨v2, rfl, s9, j0⟩; obtain ⟨g2, A2, l2, c2c, aA⟩ := s9.shape; subst aA; (try clear e8 e9); obtain ⟨c0, e8, e9⟩ := c0.zc2 j0; (try clear o0); have o0 := c0.lt; (try clear j6 j7); obtain ⟨c1, j6, j7⟩ := c1.zc2 j0; (try clear o6); have o6 := c1.lt; have c2 := c2.below j0 c2.lt; (try clear q8); have q8 := c2.lt; have j8 := (j8.next zd j0).more j0.size; have hc := Ja hc j0; obtain ⟨u4, x7, x8, x9, o7, o8⟩ := c2.f2))
 all_goals
  go_wp2
  refine bodyPost_ret (v := .agg #[.bool g2, .slice A2 l2 c2c]) (by simp [results, Tryz.results135, go_sem, o7, o8]) rfl ?_
  rw [<- EI.out]
  exact Zh aN hc s9 c2 (by omega)
theorem Ji1 (x y : Int) (B : Nat) (V1 V2 : Value) (w : World) (h1 : IsI w B V1 x) (h2 : IsI w B V2 y) (t8 : B <= w.heap.size) (hx : Je x.natAbs <= 274877906944) (hy : Je y.natAbs <= 274877906944) :
  Calls Tryz.prog 166 #[V1, V2] w (Jal (x - y) w) := by
 obtain ⟨n0, A0, l0, c0c, rfl⟩ := h1.shape
 obtain ⟨n9, A9, l9, c9c, rfl⟩ := h2.shape
 have H1 := lh h1
 have H2 := lh h2
 clear h1 h2
 have aL : Je (-y).natAbs <= 274877906944 := by rw [Int.natAbs_neg]; exact hy
 obtain ⟨b0, b1, b2, hB, hZ⟩ := bx3 w 54 #[.bool n0, .slice A0 l0 c0c] 54 #[.bool n9, .slice A9 l9 c9c] 54 #[.bool false, .slice none 0 0]
 have ne1 := neA w.heap.size
 have ne2 := neC w.heap.size
 have ne3 := neB w.heap.size
 have ne4 := neD w.heap.size
 go_enter Tryz.func166, Tryz.ntmps166
 go_upto_region 1 with fail
 generalize (((w.alloc (.cells #[.bool n0, .slice A0 l0 c0c] 54)).alloc (.cells #[.bool n9, .slice A9 l9 c9c] 54)).alloc (.cells #[.bool false, .slice none 0 0] 54)) = W at *
 have t7 : B <= W.heap.size := nt t8 hB.size
 have g1 : ∀ w', Below W.heap.size W w' -> IsI w' w'.heap.size (.agg #[.bool n0, .slice A0 l0 c0c]) x := fun w' hb => ((H1.out.next t8 hB).next t7 hb).more (nt t7 hb.size)
 have g2 : ∀ w', Below W.heap.size W w' -> Calls Tryz.prog 184 #[.agg #[.bool n9, .slice A9 l9 c9c]] w' (Jal (-y) w') := fun w' hb => Jdp y B _ w' ((H2.out.next t8 hB).next t7 hb) (nt t7 hb.size)
 have G1 := lh g1
 have G2 := lh g2
 clear g1 g2 H1 H2
 obtain ⟨o9, p7⟩ := b0.c2; obtain ⟨p8, p9⟩ := b1.c2
 obtain ⟨o9, p7⟩ := b0.c2; have c0 := b0.drew; have o0 := c0.lt; obtain ⟨p8, p9⟩ := b1.c2; have c1 := b1.drew; have o6 := c1.lt; have c2 := b2.drew; have q8 := c2.lt; have hc := Ji W; go_region_held3 (fun w' => w'.cell? ⟨w.heap.size, 0, none⟩ = some (.bool n0) /\ w'.cell? ⟨w.heap.size, 1, none⟩ = some (.slice A0 l0 c0c) /\ w'.cell? ⟨w.heap.size + 1, 0, none⟩ = some (.bool n9) /\ w'.cell? ⟨w.heap.size + 1, 1, none⟩ = some (.slice A9 l9 c9c)) (go_keep) (first | (go_at_call 184; (with_reducible refine (G2.out _ hc).mono ?_); rintro e w1 ⟨v1, rfl, j8, j9⟩; obtain ⟨g1, A1, l1, c1c, y8⟩ := j8.shape; subst y8; (try clear e8 e9); obtain ⟨c0, e8, e9⟩ := c0.zc2 j9; (try clear o0); have o0 := c0.lt; (try clear j6 j7); obtain ⟨c1, j6, j7⟩ := c1.zc2 j9; (try clear o6); have o6 := c1.lt; have c2 := c2.below j9 c2.lt; (try clear q8); have q8 := c2.lt; have hc := Ja hc j9) | (go_at_call 135; (with_reducible refine (Jdq x (-y) _ _ _ _ (G1.out _ hc) j8 zd hx aL).mono ?_); rintro e w2 ⟨v2, rfl, s9, j0⟩; obtain ⟨g2, A2, l2, c2c, aA⟩ := s9.shape; subst aA; (try clear e8 e9); obtain ⟨c0, e8, e9⟩ := c0.zc2 j0; (try clear o0); have o0 := c0.lt; (try clear j6 j7); obtain ⟨c1, j6, j7⟩ := c1.zc2 j0; (try clear o6); have o6 := c1.lt; have c2 := c2.below j0 c2.lt; (try clear q8); have q8 := c2.lt; have j8 := (j8.next zd j0).more j0.size; have hc := Ja hc j0; obtain ⟨u4, x7, x8, x9, o7, o8⟩ := c2.f2))
 all_goals
  go_wp2
  refine bodyPost_ret (v := .agg #[.bool g2, .slice A2 l2 c2c]) (by simp [results, Tryz.results166, go_sem, o7, o8]) rfl ?_
  exact Zh hB hc s9 c2 (by omega)
theorem Jkt {x y : Int} {n m : Bool} (hx : decide (x < 0) = n) (hy : decide (y < 0) = m) : signed (!(n == m)) (x.natAbs * y.natAbs) = x * y := by
 subst hx
 subst hy
 exact Jdk _ _
theorem Ya (x y : Int) (B : Nat) (V1 V2 : Value) (w : World) (h1 : IsI w B V1 x) (h2 : IsI w B V2 y) (t8 : B <= w.heap.size) (hx : Je x.natAbs <= 274877906944) (hy : Je y.natAbs <= 274877906944) :
  Calls Tryz.prog 69 #[V1, V2] w (Jal (x * y) w) := by
 obtain ⟨n0, A0, l0, c0c, rfl⟩ := h1.shape
 obtain ⟨n9, A9, l9, c9c, rfl⟩ := h2.shape
 obtain ⟨aD, aE⟩ := h1.parts
 obtain ⟨aF, hn2⟩ := h2.parts
 have aG := Jkt aD aF
 have s1 := Yo hx zd
 have s2 := Yo hy zd
 have H1 := lh aE
 have H2 := lh hn2
 clear h1 h2 aE hn2 aD aF hx hy
 obtain ⟨b0, b1, b2, hB, hZ⟩ := bx3 w 54 #[.bool n0, .slice A0 l0 c0c] 54 #[.bool n9, .slice A9 l9 c9c] 54 #[.bool false, .slice none 0 0]
 have ne1 := neA w.heap.size
 have ne2 := neC w.heap.size
 have ne3 := neB w.heap.size
 have ne4 := neD w.heap.size
 go_enter Tryz.func69, Tryz.ntmps69
 go_upto_region 1 with fail
 generalize (((w.alloc (.cells #[.bool n0, .slice A0 l0 c0c] 54)).alloc (.cells #[.bool n9, .slice A9 l9 c9c] 54)).alloc (.cells #[.bool false, .slice none 0 0] 54)) = W at *
 have t7 : B <= W.heap.size := nt t8 hB.size
 have ha : ∀ w', Below W.heap.size W w' -> Calls Tryz.prog 71 #[.slice A0 l0 c0c, .slice A9 l9 c9c] w' (Jbm (x.natAbs * y.natAbs) w') := fun w' hb => Jbd _ _ B _ _ w' ((H1.out.next t8 hB).next t7 hb) ((H2.out.next t8 hB).next t7 hb) (nt t7 hb.size) (by omega) (by omega)
 generalize x.natAbs * y.natAbs = P at *
 have aT : ∀ w' v, IsN w' w'.heap.size v P -> Calls Tryz.prog 70 #[.bool (!(n0 == n9)), v] w' (Jal (x * y) w') := fun w' v hv => by
  have := Ym (!(n0 == n9)) P _ v w' hv zd
  rw [aG] at this
  exact this
 have HA := lh ha
 have HM := lh aT
 clear ha aT aG H1 H2
 obtain ⟨o9, p7⟩ := b0.c2; obtain ⟨p8, p9⟩ := b1.c2
 obtain ⟨o9, p7⟩ := b0.c2; have c0 := b0.drew; have o0 := c0.lt; obtain ⟨p8, p9⟩ := b1.c2; have c1 := b1.drew; have o6 := c1.lt; have c2 := b2.drew; have q8 := c2.lt; have hc := Ji W; go_region_held3 (fun w' => w'.cell? ⟨w.heap.size, 0, none⟩ = some (.bool n0) /\ w'.cell? ⟨w.heap.size, 1, none⟩ = some (.slice A0 l0 c0c) /\ w'.cell? ⟨w.heap.size + 1, 0, none⟩ = some (.bool n9) /\ w'.cell? ⟨w.heap.size + 1, 1, none⟩ = some (.slice A9 l9 c9c)) (go_keep) (first | (go_at_call 71; (with_reducible refine (HA.out _ hc).mono ?_); rintro e w1 ⟨v1, rfl, j8, j9⟩; obtain ⟨A1, l1, c1c, y8⟩ := j8.form; subst y8; (try clear e8 e9); obtain ⟨c0, e8, e9⟩ := c0.zc2 j9; (try clear o0); have o0 := c0.lt; (try clear j6 j7); obtain ⟨c1, j6, j7⟩ := c1.zc2 j9; (try clear o6); have o6 := c1.lt; have c2 := c2.below j9 c2.lt; (try clear q8); have q8 := c2.lt; have hc := Ja hc j9) | (go_at_call 70; (with_reducible refine (HM.out _ _ j8).mono ?_); rintro e w2 ⟨v2, rfl, s9, j0⟩; obtain ⟨g2, A2, l2, c2c, aA⟩ := s9.shape; subst aA; (try clear e8 e9); obtain ⟨c0, e8, e9⟩ := c0.zc2 j0; (try clear o0); have o0 := c0.lt; (try clear j6 j7); obtain ⟨c1, j6, j7⟩ := c1.zc2 j0; (try clear o6); have o6 := c1.lt; have c2 := c2.below j0 c2.lt; (try clear q8); have q8 := c2.lt; have j8 := (j8.next zd j0).more j0.size; have hc := Ja hc j0; obtain ⟨u4, x7, x8, x9, o7, o8⟩ := c2.f2))
 all_goals
  go_wp2
  refine bodyPost_ret (v := .agg #[.bool g2, .slice A2 l2 c2c]) (by simp [results, Tryz.results69, go_sem, o7, o8]) rfl ?_
  exact Zh hB hc s9 c2 (by omega)
theorem Ji2 (x y : Int) (B : Nat) (V1 V2 : Value) (w : World) (h1 : IsI w B V1 x) (h2 : IsI w B V2 y) (t8 : B <= w.heap.size) (hx : Je x.natAbs <= 274877906944) (hy : Je y.natAbs <= 274877906944) :
  Calls Tryz.prog 129 #[V1, V2] w (Ret (.int .i64 (x - y).sign) w) := by
 obtain ⟨n0, A0, l0, c0c, rfl⟩ := h1.shape
 obtain ⟨n9, A9, l9, c9c, rfl⟩ := h2.shape
 have H1 := lh h1
 have H2 := lh h2
 clear h1 h2
 obtain ⟨b0, b1, hB, hZ⟩ := bx2 w 54 #[.bool n0, .slice A0 l0 c0c] 54 #[.bool n9, .slice A9 l9 c9c]
 go_enter Tryz.func129, Tryz.ntmps129
 go_wp2_with fail
 generalize ((w.alloc (.cells #[.bool n0, .slice A0 l0 c0c] 54)).alloc (.cells #[.bool n9, .slice A9 l9 c9c] 54)) = W at *
 have t7 : B <= W.heap.size := nt t8 hB.size
 have aH := Ji1 x y B _ _ W (H1.out.next t8 hB) (H2.out.next t8 hB) t7 hx hy
 generalize x - y = z at *
 have HS := lh aH
 clear aH H1 H2
 refine HS.out.mono ?_
 rintro e w1 ⟨v1, rfl, j8, j9⟩
 obtain ⟨g1, A1, l1, c1, rfl⟩ := j8.shape
 go_wp2_with fail
 refine (Jhq z _ _ w1 j8).mono ?_
 rintro e w2 ⟨rfl, j0⟩
 go_wp2
 go_ret
 exact ⟨rfl, Ja (Ja hB j9) j0⟩
theorem Jca (z : Int) (w : World) (h0 : -9223372036854775808 <= z) (h1 : z <= 9223372036854775807) : Calls Tryz.prog 64 #[.int .i64 z] w (Jal z w) := by
 have b0 := Blk.new w 54 #[.bool false, .slice none 0 0]
 have hB := Jb w (.cells #[.bool false, .slice none 0 0] 54)
 have aU := b0.lt
 by_cases hz : z < 0
 ·obtain ⟨a, ha⟩ : ∃ a : Nat, (a : Int) = -z := ⟨z.natAbs, by omega⟩
  have e1 : IntKind.u64.wrap (-(IntKind.u64.wrap z)) = (a : Int) := by
   simp only [IntKind.wrap, IntKind.bits, IntKind.signed]
   simp
   omega
  have aO : a < 18446744073709551616 := by omega
  have aG : signed true a = z := by unfold signed; simp; omega
  have aY : decide (z < 0) = true := decide_eq_true hz
  have HM : Hid (∀ w' v, IsN w' w'.heap.size v a -> Calls Tryz.prog 70 #[.bool true, v] w' (Jal z w')) := lh fun w' v hv => by
   have := Ym true a _ v w' hv zd
   rw [aG] at this
   exact this
  clear aG ha
  go_enter Tryz.func64, Tryz.ntmps64
  go_wp2_with fail
  generalize w.alloc (.cells #[.bool false, .slice none 0 0] 54) = W at *
  refine (Jat a W aO).mono ?_
  rintro e w1 ⟨v1, rfl, j8, j9⟩
  obtain ⟨A1, l1, c1, rfl⟩ := j8.form
  have b0 := b0.below j9 aU
  go_wp2_with fail
  refine (HM.out _ _ j8).mono ?_
  rintro e w2 ⟨v2, rfl, s9, j0⟩
  obtain ⟨g2, A2, l2, c2, rfl⟩ := s9.shape
  have c2 := b0.below j0 b0.lt
  obtain ⟨u4, x7, x8, x9, o7, o8⟩ := c2.f2
  go_wp2
  refine bodyPost_ret (v := .agg #[.bool g2, .slice A2 l2 _]) (by simp [results, Tryz.results64, go_sem, o7, o8]; rfl) rfl ?_
  exact Zh hB (Ja j9 j0) s9 c2 (by omega)
 obtain ⟨a, ha⟩ : ∃ a : Nat, (a : Int) = z := ⟨z.natAbs, by omega⟩
 subst ha
 have aO : a < 18446744073709551616 := by omega
 have e1 : IntKind.u64.wrap (a : Int) = (a : Int) := by rw [Jd _ (by omega) (by omega)]
 have HM : Hid (∀ w' v, IsN w' w'.heap.size v a -> Calls Tryz.prog 70 #[.bool false, v] w' (Jal (a : Int) w')) := lh fun w' v hv => Ym false a _ v w' hv zd
 go_enter Tryz.func64, Tryz.ntmps64
 go_wp2_with fail
 generalize w.alloc (.cells #[.bool false, .slice none 0 0] 54) = W at *
 refine (Jat a W aO).mono ?_
 rintro e w1 ⟨v1, rfl, j8, j9⟩
 obtain ⟨A1, l1, c1, rfl⟩ := j8.form
 have b0 := b0.below j9 aU
 go_wp2_with fail
 refine (HM.out _ _ j8).mono ?_
 rintro e w2 ⟨v2, rfl, s9, j0⟩
 obtain ⟨g2, A2, l2, c2, rfl⟩ := s9.shape
 have c2 := b0.below j0 b0.lt
 obtain ⟨u4, x7, x8, x9, o7, o8⟩ := c2.f2
 go_wp2
 refine bodyPost_ret (v := .agg #[.bool g2, .slice A2 l2 _]) (by simp [results, Tryz.results64, go_sem, o7, o8]; rfl) rfl ?_
 exact Zh hB (Ja j9 j0) s9 c2 (by omega)
