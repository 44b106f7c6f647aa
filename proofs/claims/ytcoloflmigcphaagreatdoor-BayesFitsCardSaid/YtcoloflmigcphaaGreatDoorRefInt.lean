import Derived.Test.YtcoloflmigcphaaGreatDoorRefAdd
import Derived.Test.YtcoloflmigcphaaGreatDoorRefMake
namespace Go.Proofs.YtcoloflmigcphaaGreatDoor
set_option maxRecDepth 100000
set_option maxHeartbeats 1000000
open Go.RowKit
set_option linter.all false
theorem IsI.shape {w : World} {B : Nat} {V : Value} {z : Int} (h : IsI w B V z) : ∃ g A l c, V = .agg #[.bool g, .slice A l c] := by
 obtain ⟨v, h1, h2⟩ := h
 obtain ⟨A, l, c, rfl⟩ := h2.form
 exact ⟨_, A, l, c, h1⟩
theorem IsQ.shape {w : World} {B : Nat} {V : Value} {q : Rat} (h : IsQ w B V q) : ∃ g A l c A' l' c', V = .agg #[.bool g, .slice A l c, .slice A' l' c'] := by
 obtain ⟨v, v', h1, h2, h3⟩ := h
 obtain ⟨A, l, c, rfl⟩ := h2.form
 obtain ⟨A', l', c', rfl⟩ := h3.form
 exact ⟨_, A, l, c, A', l', c', h1⟩
theorem IsI.parts {w : World} {B : Nat} {g : Bool} {v : Value} {z : Int} (h : IsI w B (.agg #[.bool g, v]) z) : decide (z < 0) = g /\ IsN w B v z.natAbs := by
 obtain ⟨v', h1, h2⟩ := h
 simp at h1
 obtain ⟨rfl, rfl⟩ := h1
 exact ⟨rfl, h2⟩
theorem IsQ.parts {w : World} {B : Nat} {g : Bool} {v v' : Value} {q : Rat} (h : IsQ w B (.agg #[.bool g, v, v']) q) : decide (q.num < 0) = g /\ IsN w B v q.num.natAbs /\ IsN w B v' q.den := by
 obtain ⟨u, u', h1, h2, h3⟩ := h
 simp at h1
 obtain ⟨rfl, rfl, rfl⟩ := h1
 exact ⟨rfl, h2, h3⟩
theorem IsQ.num {w : World} {B : Nat} {g : Bool} {v v' : Value} {q : Rat} (h : IsQ w B (.agg #[.bool g, v, v']) q) : IsI w B (.agg #[.bool g, v]) q.num := by
 obtain ⟨h1, h2, h3⟩ := h.parts
 exact ⟨v, by rw [h1], h2⟩
theorem IsQ.mk {w : World} {B : Nat} {g : Bool} {v v' : Value} {q : Rat} (h : IsI w B (.agg #[.bool g, v]) q.num) (h' : IsN w B v' q.den) : IsQ w B (.agg #[.bool g, v, v']) q := by
 obtain ⟨h1, h2⟩ := h.parts
 exact ⟨v, v', by rw [h1], h2, h'⟩
theorem Ja6 {w W wn : World} {z : Int} {g l c : Nat} {t : TypeId} {ng : Bool} {A : Option Addr} (hB : Below w.heap.size w W) (hc : Below W.heap.size W wn) (hI : IsI wn wn.heap.size (.agg #[.bool ng, .slice A l c]) z)
  (hr : Blk wn g t #[.bool false, .slice none 0 0]) (hg : w.heap.size <= g) : Jiv z w (.returned (.agg #[.bool ng, .slice A l c])) ((wn.setCell ⟨g, 0, none⟩ (.bool ng)).setCell ⟨g, 1, none⟩ (.slice A l c)) := by
 obtain ⟨h1, h2⟩ := hI.parts
 refine ⟨_, rfl, ⟨.slice A l c, by rw [h1], ?_⟩, Xo (Ja hB hc) hg _ _⟩
 rw [World.size_setCell, World.size_setCell]
 exact h2.set2 hr (Xx _) (Qs _ _ _) _ _ (Xx _)
theorem Jd4 {w W wn : World} {q : Rat} {g l c l' c' : Nat} {t : TypeId} {ng : Bool} {A A' : Option Addr} (hB : Below w.heap.size w W) (hc : Below W.heap.size W wn) (hQ : IsQ wn wn.heap.size (.agg #[.bool ng, .slice A l c, .slice A' l' c']) q)
  (hr : Blk wn g t #[.bool false, .slice none 0 0, .slice none 0 0]) (hg : w.heap.size <= g) : Jmv q w (.returned (.agg #[.bool ng, .slice A l c, .slice A' l' c'])) (((wn.setCell ⟨g, 0, none⟩ (.bool ng)).setCell ⟨g, 1, none⟩ (.slice A l c)).setCell ⟨g, 2, none⟩ (.slice A' l' c')) := by
 obtain ⟨h1, h2, h3⟩ := hQ.parts
 refine ⟨_, rfl, ⟨.slice A l c, .slice A' l' c', by rw [h1], ?_, ?_⟩, Kw (Ja hB hc) hg _ _ _⟩
 ·rw [World.size_setCell, World.size_setCell, World.size_setCell]
  exact h2.set3 hr (Xx _) (Qs _ _ _) (Qs _ _ _) _ _ _ (Xx _) (Qs _ _ _)
 rw [World.size_setCell, World.size_setCell, World.size_setCell]
 exact h3.set3 hr (Xx _) (Qs _ _ _) (Qs _ _ _) _ _ _ (Xx _) (Qs _ _ _)
theorem Jre {n k : Nat} (h : Je n <= 274877906944) (hk : 8589934592 <= k) : (Jd n).length <= k := nt (Jab n 8589934592 (by omega)) hk
theorem Je1 (neg : Bool) (a B : Nat) (va : Value) (w : World) (h : IsN w B va a) (hB : B <= w.heap.size) : Calls Tryz.prog 115 #[.bool neg, va] w (Jiv (signed neg a) w) :=
 (Jm1 neg a B va w h hB).mono fun e w' ⟨h1, h2⟩ => ⟨_, h1, ⟨va, rfl, by rw [Jcl]; exact (h.next hB h2).more (nt hB h2.size)⟩, h2⟩
theorem Jrk (z : Int) (B : Nat) (V : Value) (w : World) (h : IsI w B V z) (aI : B <= w.heap.size) : Calls Tryz.prog 160 #[V] w (Jiv (-z) w) := by
 obtain ⟨n0, A0, l0, c0c, rfl⟩ := h.shape
 obtain ⟨hd, hn⟩ := h.parts
 have hs : signed (!n0) z.natAbs = -z := by
  unfold signed
  rw [<- hd]
  by_cases h : z < 0
  ·rw [decide_eq_true h]; simp; omega
  rw [decide_eq_false h]; simp; omega
 have H := lh hn
 clear h hn hd
 obtain ⟨b0, b1, hB, hZ⟩ := bx2 w 26 #[.bool n0, .slice A0 l0 c0c] 26 #[.bool false, .slice none 0 0]
 go_enter Tryz.func160, Tryz.ntmps160
 go_wp2_with fail
 generalize ((w.alloc (.cells #[.bool n0, .slice A0 l0 c0c] 26)).alloc (.cells #[.bool false, .slice none 0 0] 26)) = W at *
 have aH : B <= W.heap.size := nt aI hB.size
 have aZ : ∀ w', Below W.heap.size W w' -> Calls Tryz.prog 115 #[.bool (!n0), .slice A0 l0 c0c] w' (Jiv (-z) w') := fun w' hb => by
  have := Je1 (!n0) z.natAbs B _ w' ((H.out.next aI hB).next aH hb) (nt aH hb.size)
  rw [hs] at this
  exact this
 have HMK := lh aZ
 clear aZ hs
 have c0 := b0; have aA := c0.lt; obtain ⟨bI, bJ⟩ := c0.c2; have c1 := b1; have aB := c1.lt; have hc := Below.refl W.heap.size W; go_wp2_with fail; refine (HMK.out _ hc).mono ?_; rintro e w1 ⟨v1, rfl, j7, j8⟩; obtain ⟨g1, A1, l1, c1c, aJ⟩ := j7.shape; subst aJ; (try clear bI bJ); obtain ⟨c0, bI, bJ⟩ := c0.zc2 j8; (try clear aA); have aA := c0.lt; have c1 := c1.below j8 c1.lt; (try clear aB); have aB := c1.lt; have hc := Ja hc j8; obtain ⟨bK, y9, bE, bF, aT, aU⟩ := c1.f2
 go_wp2
 refine bodyPost_ret (v := .agg #[.bool g1, .slice A1 l1 c1c]) (by simp [results, Tryz.results160, go_sem, aT, aU]) rfl ?_
 exact Ja6 hB hc j7 c1 (by omega)
theorem Jpr (z : Int) (B : Nat) (V : Value) (w : World) (h : IsI w B V z) : Calls Tryz.prog 105 #[V] w (Ret (.int .i64 z.sign) w) := by
 obtain ⟨n0, A0, l0, c0c, rfl⟩ := h.shape
 obtain ⟨hd, hn⟩ := h.parts
 have hl : l0 = (Jd z.natAbs).length := by
  obtain ⟨A', c', h1, _⟩ := hn
  injection h1
 have hz := Ks z.natAbs
 rw [<- hl] at hz
 have hs : (l0 = 0 /\ z.sign = 0) \/ (((l0 : Int) == 0) = false /\ n0 = true /\ z.sign = -1) \/ (((l0 : Int) == 0) = false /\ n0 = false /\ z.sign = 1) := by
  rcases Int.lt_trichotomy z 0 with h1 | h1 | h1
  ·right; left
   exact ⟨by simp; omega, by rw [<- hd]; exact decide_eq_true h1, Int.sign_eq_neg_one_of_neg h1⟩
  ·left
   subst h1
   exact ⟨hz.2 rfl, rfl⟩
  right; right
  exact ⟨by simp; omega, by rw [<- hd]; exact decide_eq_false (by omega), Int.sign_eq_one_of_pos h1⟩
 clear h hd hn hl hz
 obtain ⟨b0, hB, hZ⟩ := bx1 w 26 #[.bool n0, .slice A0 l0 c0c]
 rcases hs with ⟨rfl, h2⟩ | ⟨h1, rfl, h2⟩ | ⟨h1, rfl, h2⟩
 all_goals
  rw [h2]
  clear h2
  go_enter Tryz.func105, Tryz.ntmps105
  go_wp2
  go_ret
  exact ⟨rfl, hB⟩
theorem Jru {x y : Int} {n m : Bool} (hx : decide (x < 0) = n) (hy : decide (y < 0) = m) : (n = m -> signed n (x.natAbs + y.natAbs) = x + y) /\ (n ≠ m -> y.natAbs <= x.natAbs -> signed n (x.natAbs - y.natAbs) = x + y) /\ (n ≠ m -> x.natAbs < y.natAbs -> signed m (y.natAbs - x.natAbs) = x + y) := by
 unfold signed
 by_cases h1 : x < 0
 ·rw [decide_eq_true h1] at hx
  by_cases h2 : y < 0
  ·rw [decide_eq_true h2] at hy
   subst hx; subst hy
   simp
   omega
  rw [decide_eq_false h2] at hy
  subst hx; subst hy
  simp
  omega
 rw [decide_eq_false h1] at hx
 by_cases h2 : y < 0
 ·rw [decide_eq_true h2] at hy
  subst hx; subst hy
  simp
  omega
 rw [decide_eq_false h2] at hy
 subst hx; subst hy
 simp
 omega
theorem Jrm (x y : Int) (B : Nat) (V1 V2 : Value) (w : World) (h1 : IsI w B V1 x) (h2 : IsI w B V2 y) (aI : B <= w.heap.size) (hx : Je x.natAbs <= 274877906944) (hy : Je y.natAbs <= 274877906944) :
  Calls Tryz.prog 138 #[V1, V2] w (Jiv (x + y) w) := by
 obtain ⟨n0, A0, l0, c0c, rfl⟩ := h1.shape
 obtain ⟨n9, A9, l9, c9c, rfl⟩ := h2.shape
 obtain ⟨aO, aP⟩ := h1.parts
 obtain ⟨aQ, aR⟩ := h2.parts
 obtain ⟨e1, e2, e3⟩ := Jru aO aQ
 have s1 := Jre hx zd
 have s2 := Jre hy zd
 have H1 := lh aP
 have H2 := lh aR
 have E1 := lh e1
 have E2 := lh e2
 have E3 := lh e3
 clear h1 h2 aP aR aO aQ e1 e2 e3 hx hy
 obtain ⟨b0, b1, b2, hB, hZ⟩ := bx3 w 26 #[.bool n0, .slice A0 l0 c0c] 26 #[.bool n9, .slice A9 l9 c9c] 26 #[.bool false, .slice none 0 0]
 have ne1 := neA w.heap.size
 have ne2 := neC w.heap.size
 have ne3 := neB w.heap.size
 have ne4 := neD w.heap.size
 go_enter Tryz.func138, Tryz.ntmps138
 go_upto_region 1 with fail
 generalize (((w.alloc (.cells #[.bool n0, .slice A0 l0 c0c] 26)).alloc (.cells #[.bool n9, .slice A9 l9 c9c] 26)).alloc (.cells #[.bool false, .slice none 0 0] 26)) = W at *
 have aH : B <= W.heap.size := nt aI hB.size
 have g1 : ∀ w', Below W.heap.size W w' -> IsN w' B (.slice A0 l0 c0c) x.natAbs := fun w' hb => (H1.out.next aI hB).next aH hb
 have g2 : ∀ w', Below W.heap.size W w' -> IsN w' B (.slice A9 l9 c9c) y.natAbs := fun w' hb => (H2.out.next aI hB).next aH hb
 have ha : ∀ w', Below W.heap.size W w' -> Calls Tryz.prog 158 #[.slice A0 l0 c0c, .slice A9 l9 c9c] w' (Jkl (x.natAbs + y.natAbs) w') := fun w' hb => Jri _ _ B _ _ w' (g1 w' hb) (g2 w' hb) (nt aH hb.size) (by omega) (by omega)
 have bA : ∀ w', Below W.heap.size W w' -> Calls Tryz.prog 110 #[.slice A0 l0 c0c, .slice A9 l9 c9c] w' (Ret (.int .i64 (Qz x.natAbs y.natAbs)) w') := fun w' hb => Jai _ _ B B _ _ w' (g1 w' hb) (g2 w' hb) (by omega) (by omega)
 have bB : y.natAbs <= x.natAbs -> ∀ w', Below W.heap.size W w' -> Calls Tryz.prog 159 #[.slice A0 l0 c0c, .slice A9 l9 c9c] w' (Jkl (x.natAbs - y.natAbs) w') := fun aV w' hb => Jrb _ _ B _ _ w' (g1 w' hb) (g2 w' hb) (nt aH hb.size) (by omega) aV
 have bC : x.natAbs <= y.natAbs -> ∀ w', Below W.heap.size W w' -> Calls Tryz.prog 159 #[.slice A9 l9 c9c, .slice A0 l0 c0c] w' (Jkl (y.natAbs - x.natAbs) w') := fun aV w' hb => Jrb _ _ B _ _ w' (g2 w' hb) (g1 w' hb) (nt aH hb.size) (by omega) aV
 generalize hxn : x.natAbs = X at *
 generalize aW : y.natAbs = Y at *
 have HA := lh ha
 have HC := lh bA
 have HS1 := lh bB
 have HS2 := lh bC
 clear ha bA bB bC g1 g2 hxn aW H1 H2
 by_cases aM : n0 = n9
 ·subst aM
  have bG : (n0 == n0) = true := by simp
  obtain ⟨aC, aD⟩ := b0.c2; obtain ⟨aE, aF⟩ := b1.c2
  have EI := lh (E1.out rfl)
  clear E1 E2 E3
  go_wp2_with fail
  obtain ⟨aC, aD⟩ := b0.c2; have c0 := b0.drew; have aA := c0.lt; obtain ⟨aE, aF⟩ := b1.c2; have c1 := b1.drew; have aB := c1.lt; have c2 := b2.drew; have aG := c2.lt; have hc := Jt W; go_region_held3 (fun w' => w'.cell? ⟨w.heap.size, 0, none⟩ = some (.bool n0) /\ w'.cell? ⟨w.heap.size, 1, none⟩ = some (.slice A0 l0 c0c) /\ w'.cell? ⟨w.heap.size + 1, 0, none⟩ = some (.bool n0) /\ w'.cell? ⟨w.heap.size + 1, 1, none⟩ = some (.slice A9 l9 c9c)) (go_keep) (first | ((first | (go_at_call 158; (with_reducible refine (HA.out _ hc).mono ?_); rintro e w1 ⟨v1, rfl, j7, bH⟩; obtain ⟨A1, l1, c1c, aJ⟩ := j7.form; subst aJ) | (go_at_call 115; (with_reducible refine (Je1 n0 (X + Y) _ _ _ j7 zd).mono ?_); rintro e w2 ⟨v2, rfl, j9, bH⟩; obtain ⟨g2, A2, l2, c2c, aL⟩ := j9.shape; subst aL; have j7 := (j7.next zd bH).more bH.size; have lst := True.intro)); (try clear bI bJ); obtain ⟨c0, bI, bJ⟩ := c0.zc2 bH; (try clear aA); have aA := c0.lt; (try clear bK y9); obtain ⟨c1, bK, y9⟩ := c1.zc2 bH; (try clear aB); have aB := c1.lt; have c2 := c2.below bH c2.lt; (try clear aG); have aG := c2.lt; have hc := Ja hc bH; (try (clear lst; obtain ⟨bL, o0, o9, bM, j0, j6⟩ := c2.f2))))
  all_goals
   go_wp2
   refine bodyPost_ret (v := .agg #[.bool g2, .slice A2 l2 c2c]) (by simp [results, Tryz.results138, go_sem, j0, j6]) rfl ?_
   rw [<- EI.out]
   exact Ja6 hB hc j9 c2 (by omega)
 have bG : (n0 == n9) = false := by simpa using aM
 obtain ⟨aC, aD⟩ := b0.c2; obtain ⟨aE, aF⟩ := b1.c2
 by_cases aN : X < Y
 ·have EI := lh (E3.out aM aN)
  have aX : Qz X Y = -1 := Zq aN
  rw [aX] at HC
  have HS := lh (HS2.out (Nat.le_of_lt aN))
  clear E1 E2 E3 aX aM HS1 HS2 aN
  go_wp2_with fail
  refine (HC.out _ (Below.refl _ _)).mono ?_
  rintro e w5 ⟨rfl, aK⟩
  have b0 := b0.below aK b0.lt
  have b1 := b1.below aK b1.lt
  have b2 := b2.below aK b2.lt
  have aY := Ja hB aK
  have HS' : Hid (∀ w', Below w5.heap.size w5 w' -> Calls Tryz.prog 159 #[.slice A9 l9 c9c, .slice A0 l0 c0c] w' (Jkl (Y - X) w')) := lh fun w' hb => HS.out w' (Ja aK hb)
  clear aC aD aE aF HS
  obtain ⟨aC, aD⟩ := b0.c2; obtain ⟨aE, aF⟩ := b1.c2
  go_wp2_with fail
  obtain ⟨aC, aD⟩ := b0.c2; have c0 := b0.drew; have aA := c0.lt; obtain ⟨aE, aF⟩ := b1.c2; have c1 := b1.drew; have aB := c1.lt; have c2 := b2.drew; have aG := c2.lt; have hc := Jt w5; go_region_held3 (fun w' => w'.cell? ⟨w.heap.size, 0, none⟩ = some (.bool n0) /\ w'.cell? ⟨w.heap.size, 1, none⟩ = some (.slice A0 l0 c0c) /\ w'.cell? ⟨w.heap.size + 1, 0, none⟩ = some (.bool n9) /\ w'.cell? ⟨w.heap.size + 1, 1, none⟩ = some (.slice A9 l9 c9c)) (go_keep) (first | ((first | (go_at_call 159; (with_reducible refine (HS'.out _ hc).mono ?_); rintro e w1 ⟨v1, rfl, j7, bH⟩; obtain ⟨A1, l1, c1c, aJ⟩ := j7.form; subst aJ) | (go_at_call 115; (with_reducible refine (Je1 n9 (Y - X) _ _ _ j7 zd).mono ?_); rintro e w2 ⟨v2, rfl, j9, bH⟩; obtain ⟨g2, A2, l2, c2c, aL⟩ := j9.shape; subst aL; have j7 := (j7.next zd bH).more bH.size; have lst := True.intro)); (try clear bI bJ); obtain ⟨c0, bI, bJ⟩ := c0.zc2 bH; (try clear aA); have aA := c0.lt; (try clear bK y9); obtain ⟨c1, bK, y9⟩ := c1.zc2 bH; (try clear aB); have aB := c1.lt; have c2 := c2.below bH c2.lt; (try clear aG); have aG := c2.lt; have hc := Ja hc bH; (try (clear lst; obtain ⟨bL, o0, o9, bM, j0, j6⟩ := c2.f2))))
  all_goals
   go_wp2
   refine bodyPost_ret (v := .agg #[.bool g2, .slice A2 l2 c2c]) (by simp [results, Tryz.results138, go_sem, j0, j6]) rfl ?_
   rw [<- EI.out]
   exact Ja6 aY hc j9 c2 (by omega)
 have EI := lh (E2.out aM (by omega))
 have aX : 0 <= Qz X Y := by unfold Qz; rw [if_neg aN]; split <;> omega
 have HS := lh (HS1.out (by omega))
 generalize Qz X Y = cv at *
 clear E1 E2 E3 aM HS1 HS2 aN
 go_wp2_with fail
 refine (HC.out _ (Below.refl _ _)).mono ?_
 rintro e w5 ⟨rfl, aK⟩
 have b0 := b0.below aK b0.lt
 have b1 := b1.below aK b1.lt
 have b2 := b2.below aK b2.lt
 have aY := Ja hB aK
 have HS' : Hid (∀ w', Below w5.heap.size w5 w' -> Calls Tryz.prog 159 #[.slice A0 l0 c0c, .slice A9 l9 c9c] w' (Jkl (X - Y) w')) := lh fun w' hb => HS.out w' (Ja aK hb)
 clear aC aD aE aF HS
 obtain ⟨aC, aD⟩ := b0.c2; obtain ⟨aE, aF⟩ := b1.c2
 go_wp2_with fail
 obtain ⟨aC, aD⟩ := b0.c2; have c0 := b0.drew; have aA := c0.lt; obtain ⟨aE, aF⟩ := b1.c2; have c1 := b1.drew; have aB := c1.lt; have c2 := b2.drew; have aG := c2.lt; have hc := Jt w5; go_region_held3 (fun w' => w'.cell? ⟨w.heap.size, 0, none⟩ = some (.bool n0) /\ w'.cell? ⟨w.heap.size, 1, none⟩ = some (.slice A0 l0 c0c) /\ w'.cell? ⟨w.heap.size + 1, 0, none⟩ = some (.bool n9) /\ w'.cell? ⟨w.heap.size + 1, 1, none⟩ = some (.slice A9 l9 c9c)) (go_keep) (first | ((first | (go_at_call 159; (with_reducible refine (HS'.out _ hc).mono ?_); rintro e w1 ⟨v1, rfl, j7, bH⟩; obtain ⟨A1, l1, c1c, aJ⟩ := j7.form; subst aJ) | (go_at_call 115; (with_reducible refine (Je1 n0 (X - Y) _ _ _ j7 zd).mono ?_); rintro e w2 ⟨v2, rfl, j9, bH⟩; obtain ⟨g2, A2, l2, c2c, aL⟩ := j9.shape; subst aL; have j7 := (j7.next zd bH).more bH.size; have lst := True.intro)); (try clear bI bJ); obtain ⟨c0, bI, bJ⟩ := c0.zc2 bH; (try clear aA); have aA := c0.lt; (try clear bK y9); obtain ⟨c1, bK, y9⟩ := c1.zc2 bH; (try clear aB); have aB := c1.lt; have c2 := c2.below bH c2.lt; (try clear aG); have aG := c2.lt; have hc := Ja hc bH; (try (clear lst; obtain ⟨bL, o0, o9, bM, j0, j6⟩ := c2.f2))))
 all_goals
  go_wp2
  refine bodyPost_ret (v := .agg #[.bool g2, .slice A2 l2 c2c]) (by simp [results, Tryz.results138, go_sem, j0, j6]) rfl ?_
  rw [<- EI.out]
  exact Ja6 aY hc j9 c2 (by omega)
theorem Jrj (x y : Int) (B : Nat) (V1 V2 : Value) (w : World) (h1 : IsI w B V1 x) (h2 : IsI w B V2 y) (aI : B <= w.heap.size) (hx : Je x.natAbs <= 274877906944) (hy : Je y.natAbs <= 274877906944) :
  Calls Tryz.prog 139 #[V1, V2] w (Jiv (x - y) w) := by
 obtain ⟨n0, A0, l0, c0c, rfl⟩ := h1.shape
 obtain ⟨n9, A9, l9, c9c, rfl⟩ := h2.shape
 have H1 := lh h1
 have H2 := lh h2
 clear h1 h2
 have aW : Je (-y).natAbs <= 274877906944 := by rw [Int.natAbs_neg]; exact hy
 obtain ⟨b0, b1, b2, hB, hZ⟩ := bx3 w 26 #[.bool n0, .slice A0 l0 c0c] 26 #[.bool n9, .slice A9 l9 c9c] 26 #[.bool false, .slice none 0 0]
 have ne1 := neA w.heap.size
 have ne2 := neC w.heap.size
 have ne3 := neB w.heap.size
 have ne4 := neD w.heap.size
 go_enter Tryz.func139, Tryz.ntmps139
 go_upto_region 1 with fail
 generalize (((w.alloc (.cells #[.bool n0, .slice A0 l0 c0c] 26)).alloc (.cells #[.bool n9, .slice A9 l9 c9c] 26)).alloc (.cells #[.bool false, .slice none 0 0] 26)) = W at *
 have aH : B <= W.heap.size := nt aI hB.size
 have g1 : ∀ w', Below W.heap.size W w' -> IsI w' w'.heap.size (.agg #[.bool n0, .slice A0 l0 c0c]) x := fun w' hb => ((H1.out.next aI hB).next aH hb).more (nt aH hb.size)
 have g2 : ∀ w', Below W.heap.size W w' -> Calls Tryz.prog 160 #[.agg #[.bool n9, .slice A9 l9 c9c]] w' (Jiv (-y) w') := fun w' hb => Jrk y B _ w' ((H2.out.next aI hB).next aH hb) (nt aH hb.size)
 have G1 := lh g1
 have G2 := lh g2
 clear g1 g2 H1 H2
 obtain ⟨aC, aD⟩ := b0.c2; obtain ⟨aE, aF⟩ := b1.c2
 obtain ⟨aC, aD⟩ := b0.c2; have c0 := b0.drew; have aA := c0.lt; obtain ⟨aE, aF⟩ := b1.c2; have c1 := b1.drew; have aB := c1.lt; have c2 := b2.drew; have aG := c2.lt; have hc := Jt W; go_region_held3 (fun w' => w'.cell? ⟨w.heap.size, 0, none⟩ = some (.bool n0) /\ w'.cell? ⟨w.heap.size, 1, none⟩ = some (.slice A0 l0 c0c) /\ w'.cell? ⟨w.heap.size + 1, 0, none⟩ = some (.bool n9) /\ w'.cell? ⟨w.heap.size + 1, 1, none⟩ = some (.slice A9 l9 c9c)) (go_keep) (first | ((first | (go_at_call 160; (with_reducible refine (G2.out _ hc).mono ?_); rintro e w1 ⟨v1, rfl, j7, bH⟩; obtain ⟨g1, A1, l1, c1c, aJ⟩ := j7.shape; subst aJ) | (go_at_call 138; (with_reducible refine (Jrm x (-y) _ _ _ _ (G1.out _ hc) j7 zd hx aW).mono ?_); rintro e w2 ⟨v2, rfl, j9, bH⟩; obtain ⟨g2, A2, l2, c2c, aL⟩ := j9.shape; subst aL; have j7 := (j7.next zd bH).more bH.size; have lst := True.intro)); (try clear bI bJ); obtain ⟨c0, bI, bJ⟩ := c0.zc2 bH; (try clear aA); have aA := c0.lt; (try clear bK y9); obtain ⟨c1, bK, y9⟩ := c1.zc2 bH; (try clear aB); have aB := c1.lt; have c2 := c2.below bH c2.lt; (try clear aG); have aG := c2.lt; have hc := Ja hc bH; (try (clear lst; obtain ⟨bL, o0, o9, bM, j0, j6⟩ := c2.f2))))
 all_goals
  go_wp2
  refine bodyPost_ret (v := .agg #[.bool g2, .slice A2 l2 c2c]) (by simp [results, Tryz.results139, go_sem, j0, j6]) rfl ?_
  exact Ja6 hB hc j9 c2 (by omega)
theorem Jrs {x y : Int} {n m : Bool} (hx : decide (x < 0) = n) (hy : decide (y < 0) = m) : signed (!(n == m)) (x.natAbs * y.natAbs) = x * y := by
 subst hx
 subst hy
 exact Jhs _ _
theorem Jrc (x y : Int) (B : Nat) (V1 V2 : Value) (w : World) (h1 : IsI w B V1 x) (h2 : IsI w B V2 y) (aI : B <= w.heap.size) (hx : Je x.natAbs <= 274877906944) (hy : Je y.natAbs <= 274877906944) :
  Calls Tryz.prog 114 #[V1, V2] w (Jiv (x * y) w) := by
 obtain ⟨n0, A0, l0, c0c, rfl⟩ := h1.shape
 obtain ⟨n9, A9, l9, c9c, rfl⟩ := h2.shape
 obtain ⟨aO, aP⟩ := h1.parts
 obtain ⟨aQ, aR⟩ := h2.parts
 have bO := Jrs aO aQ
 have s1 := Jre hx zd
 have s2 := Jre hy zd
 have H1 := lh aP
 have H2 := lh aR
 clear h1 h2 aP aR aO aQ hx hy
 obtain ⟨b0, b1, b2, hB, hZ⟩ := bx3 w 26 #[.bool n0, .slice A0 l0 c0c] 26 #[.bool n9, .slice A9 l9 c9c] 26 #[.bool false, .slice none 0 0]
 have ne1 := neA w.heap.size
 have ne2 := neC w.heap.size
 have ne3 := neB w.heap.size
 have ne4 := neD w.heap.size
 go_enter Tryz.func114, Tryz.ntmps114
 go_upto_region 1 with fail
 generalize (((w.alloc (.cells #[.bool n0, .slice A0 l0 c0c] 26)).alloc (.cells #[.bool n9, .slice A9 l9 c9c] 26)).alloc (.cells #[.bool false, .slice none 0 0] 26)) = W at *
 have aH : B <= W.heap.size := nt aI hB.size
 have ha : ∀ w', Below W.heap.size W w' -> Calls Tryz.prog 116 #[.slice A0 l0 c0c, .slice A9 l9 c9c] w' (Jkl (x.natAbs * y.natAbs) w') := fun w' hb => Jrh _ _ B _ _ w' ((H1.out.next aI hB).next aH hb) ((H2.out.next aI hB).next aH hb) (nt aH hb.size) (by omega) (by omega)
 generalize x.natAbs * y.natAbs = P at *
 have bD : ∀ w' v, IsN w' w'.heap.size v P -> Calls Tryz.prog 115 #[.bool (!(n0 == n9)), v] w' (Jiv (x * y) w') := fun w' v hv => by
  have := Je1 (!(n0 == n9)) P _ v w' hv zd
  rw [bO] at this
  exact this
 have HA := lh ha
 have HM := lh bD
 clear ha bD bO H1 H2
 obtain ⟨aC, aD⟩ := b0.c2; obtain ⟨aE, aF⟩ := b1.c2
 obtain ⟨aC, aD⟩ := b0.c2; have c0 := b0.drew; have aA := c0.lt; obtain ⟨aE, aF⟩ := b1.c2; have c1 := b1.drew; have aB := c1.lt; have c2 := b2.drew; have aG := c2.lt; have hc := Jt W; go_region_held3 (fun w' => w'.cell? ⟨w.heap.size, 0, none⟩ = some (.bool n0) /\ w'.cell? ⟨w.heap.size, 1, none⟩ = some (.slice A0 l0 c0c) /\ w'.cell? ⟨w.heap.size + 1, 0, none⟩ = some (.bool n9) /\ w'.cell? ⟨w.heap.size + 1, 1, none⟩ = some (.slice A9 l9 c9c)) (go_keep) (first | ((first | (go_at_call 116; (with_reducible refine (HA.out _ hc).mono ?_); rintro e w1 ⟨v1, rfl, j7, bH⟩; obtain ⟨A1, l1, c1c, aJ⟩ := j7.form; subst aJ) | (go_at_call 115; (with_reducible refine (HM.out _ _ j7).mono ?_); rintro e w2 ⟨v2, rfl, j9, bH⟩; obtain ⟨g2, A2, l2, c2c, aL⟩ := j9.shape; subst aL; have j7 := (j7.next zd bH).more bH.size; have lst := True.intro)); (try clear bI bJ); obtain ⟨c0, bI, bJ⟩ := c0.zc2 bH; (try clear aA); have aA := c0.lt; (try clear bK y9); obtain ⟨c1, bK, y9⟩ := c1.zc2 bH; (try clear aB); have aB := c1.lt; have c2 := c2.below bH c2.lt; (try clear aG); have aG := c2.lt; have hc := Ja hc bH; (try (clear lst; obtain ⟨bL, o0, o9, bM, j0, j6⟩ := c2.f2))))
 all_goals
  go_wp2
  refine bodyPost_ret (v := .agg #[.bool g2, .slice A2 l2 c2c]) (by simp [results, Tryz.results114, go_sem, j0, j6]) rfl ?_
  exact Ja6 hB hc j9 c2 (by omega)
theorem Jrl (x y : Int) (B : Nat) (V1 V2 : Value) (w : World) (h1 : IsI w B V1 x) (h2 : IsI w B V2 y) (aI : B <= w.heap.size) (hx : Je x.natAbs <= 274877906944) (hy : Je y.natAbs <= 274877906944) :
  Calls Tryz.prog 118 #[V1, V2] w (Ret (.int .i64 (x - y).sign) w) := by
 obtain ⟨n0, A0, l0, c0c, rfl⟩ := h1.shape
 obtain ⟨n9, A9, l9, c9c, rfl⟩ := h2.shape
 have H1 := lh h1
 have H2 := lh h2
 clear h1 h2
 obtain ⟨b0, b1, hB, hZ⟩ := bx2 w 26 #[.bool n0, .slice A0 l0 c0c] 26 #[.bool n9, .slice A9 l9 c9c]
 go_enter Tryz.func118, Tryz.ntmps118
 go_wp2_with fail
 generalize ((w.alloc (.cells #[.bool n0, .slice A0 l0 c0c] 26)).alloc (.cells #[.bool n9, .slice A9 l9 c9c] 26)) = W at *
 have aH : B <= W.heap.size := nt aI hB.size
 have aS := Jrj x y B _ _ W (H1.out.next aI hB) (H2.out.next aI hB) aH hx hy
 generalize x - y = z at *
 have HS := lh aS
 clear aS H1 H2
 refine HS.out.mono ?_
 rintro e w1 ⟨v1, rfl, j7, j8⟩
 obtain ⟨g1, A1, l1, c1, rfl⟩ := j7.shape
 go_wp2_with fail
 refine (Jpr z _ _ w1 j7).mono ?_
 rintro e w2 ⟨rfl, bN⟩
 go_wp2
 go_ret
 exact ⟨rfl, Ja (Ja hB j8) bN⟩
theorem Jd5 (z : Int) (w : World) (h0 : -9223372036854775808 <= z) (h1 : z <= 9223372036854775807) : Calls Tryz.prog 97 #[.int .i64 z] w (Jiv z w) := by
 have b0 := Blk.new w 26 #[.bool false, .slice none 0 0]
 have hB := Jb w (.cells #[.bool false, .slice none 0 0] 26)
 have p9 := b0.lt
 by_cases hz : z < 0
 ·obtain ⟨a, ha⟩ : ∃ a : Nat, (a : Int) = -z := ⟨z.natAbs, by omega⟩
  have e1 : IntKind.u64.wrap (-(IntKind.u64.wrap z)) = (a : Int) := by
   simp only [IntKind.wrap, IntKind.bits, IntKind.signed]
   simp
   omega
  have bP : a < 18446744073709551616 := by omega
  have bO : signed true a = z := by unfold signed; simp; omega
  have s9 : decide (z < 0) = true := decide_eq_true hz
  have HM : Hid (∀ w' v, IsN w' w'.heap.size v a -> Calls Tryz.prog 115 #[.bool true, v] w' (Jiv z w')) := lh fun w' v hv => by
   have := Je1 true a _ v w' hv zd
   rw [bO] at this
   exact this
  clear bO ha
  go_enter Tryz.func97, Tryz.ntmps97
  go_wp2_with fail
  generalize w.alloc (.cells #[.bool false, .slice none 0 0] 26) = W at *
  refine (Ja8 a W bP).mono ?_
  rintro e w1 ⟨v1, rfl, j7, j8⟩
  obtain ⟨A1, l1, c1, rfl⟩ := j7.form
  have b0 := b0.below j8 p9
  go_wp2_with fail
  refine (HM.out _ _ j7).mono ?_
  rintro e w2 ⟨v2, rfl, j9, bN⟩
  obtain ⟨g2, A2, l2, c2, rfl⟩ := j9.shape
  have c2 := b0.below bN b0.lt
  obtain ⟨bL, o0, o9, bM, j0, j6⟩ := c2.f2
  go_wp2
  refine bodyPost_ret (v := .agg #[.bool g2, .slice A2 l2 _]) (by simp [results, Tryz.results97, go_sem, j0, j6]; rfl) rfl ?_
  exact Ja6 hB (Ja j8 bN) j9 c2 (by omega)
 obtain ⟨a, ha⟩ : ∃ a : Nat, (a : Int) = z := ⟨z.natAbs, by omega⟩
 subst ha
 have bP : a < 18446744073709551616 := by omega
 have e1 : IntKind.u64.wrap (a : Int) = (a : Int) := by rw [Jc _ (by omega) (by omega)]
 have HM : Hid (∀ w' v, IsN w' w'.heap.size v a -> Calls Tryz.prog 115 #[.bool false, v] w' (Jiv (a : Int) w')) := lh fun w' v hv => Je1 false a _ v w' hv zd
 go_enter Tryz.func97, Tryz.ntmps97
 go_wp2_with fail
 generalize w.alloc (.cells #[.bool false, .slice none 0 0] 26) = W at *
 refine (Ja8 a W bP).mono ?_
 rintro e w1 ⟨v1, rfl, j7, j8⟩
 obtain ⟨A1, l1, c1, rfl⟩ := j7.form
 have b0 := b0.below j8 p9
 go_wp2_with fail
 refine (HM.out _ _ j7).mono ?_
 rintro e w2 ⟨v2, rfl, j9, bN⟩
 obtain ⟨g2, A2, l2, c2, rfl⟩ := j9.shape
 have c2 := b0.below bN b0.lt
 obtain ⟨bL, o0, o9, bM, j0, j6⟩ := c2.f2
 go_wp2
 refine bodyPost_ret (v := .agg #[.bool g2, .slice A2 l2 _]) (by simp [results, Tryz.results97, go_sem, j0, j6]; rfl) rfl ?_
 exact Ja6 hB (Ja j8 bN) j9 c2 (by omega)
