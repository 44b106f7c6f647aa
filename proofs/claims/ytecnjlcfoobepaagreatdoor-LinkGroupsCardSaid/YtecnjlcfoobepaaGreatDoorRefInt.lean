import Derived.Test.YtecnjlcfoobepaaGreatDoorRefAdd
import Derived.Test.YtecnjlcfoobepaaGreatDoorRefMake
namespace Go.Proofs.YtecnjlcfoobepaaGreatDoor
set_option maxRecDepth 100000
set_option maxHeartbeats 1000000
open Go.RowKit
set_option linter.all false
theorem IsI.shape {w : World} {B : Nat} {V : Value} {z : Int} (h : IsI w B V z) : ∃ g A l c, V = .agg #[.bool g, .slice A l c] := by
 obtain ⟨v, h1, h2⟩ := h
 obtain ⟨A, l, c, rfl⟩ := h2.form
 exact ⟨_, A, l, c, h1⟩
theorem IsQ.shape {w : World} {B : Nat} {V : Value} {q : Rat} (h : IsQ w B V q) : ∃ g A l c A' l' c', V = .agg #[.bool g, .slice A l c, .slice A' l' c'] := by
 obtain ⟨v, v', h1, h2, h3⟩ := h
 obtain ⟨A, l, c, rfl⟩ := h2.form
 obtain ⟨A', l', c', rfl⟩ := h3.form
 exact ⟨_, A, l, c, A', l', c', h1⟩
theorem IsI.parts {w : World} {B : Nat} {g : Bool} {v : Value} {z : Int} (h : IsI w B (.agg #[.bool g, v]) z) : decide (z < 0) = g /\ IsN w B v z.natAbs := by
 obtain ⟨v', h1, h2⟩ := h
 simp at h1
 obtain ⟨rfl, rfl⟩ := h1
 exact ⟨rfl, h2⟩
theorem IsI.of {w : World} {B a : Nat} {g : Bool} {v : Value} {z : Int} (h : IsN w B v z.natAbs) (hg : decide (z < 0) = g) : IsI w B (.agg #[.bool g, v]) z := ⟨v, by rw [hg], h⟩
theorem IsQ.parts {w : World} {B : Nat} {g : Bool} {v v' : Value} {q : Rat} (h : IsQ w B (.agg #[.bool g, v, v']) q) : decide (q.num < 0) = g /\ IsN w B v q.num.natAbs /\ IsN w B v' q.den := by
 obtain ⟨u, u', h1, h2, h3⟩ := h
 simp at h1
 obtain ⟨rfl, rfl, rfl⟩ := h1
 exact ⟨rfl, h2, h3⟩
theorem IsQ.num {w : World} {B : Nat} {g : Bool} {v v' : Value} {q : Rat} (h : IsQ w B (.agg #[.bool g, v, v']) q) : IsI w B (.agg #[.bool g, v]) q.num := by
 obtain ⟨h1, h2, h3⟩ := h.parts
 exact ⟨v, by rw [h1], h2⟩
theorem IsQ.mk {w : World} {B : Nat} {g : Bool} {v v' : Value} {q : Rat} (h : IsI w B (.agg #[.bool g, v]) q.num) (h' : IsN w B v' q.den) : IsQ w B (.agg #[.bool g, v, v']) q := by
 obtain ⟨h1, h2⟩ := h.parts
 exact ⟨v, v', by rw [h1], h2, h'⟩
theorem Zd {w W wn : World} {z : Int} {g l c : Nat} {t : TypeId} {ng : Bool} {A : Option Addr} (hB : Below w.heap.size w W) (hc : Below W.heap.size W wn) (hI : IsI wn wn.heap.size (.agg #[.bool ng, .slice A l c]) z)
  (hr : Blk wn g t #[.bool false, .slice none 0 0]) (hg : w.heap.size <= g) : Ja1 z w (.returned (.agg #[.bool ng, .slice A l c])) ((wn.setCell ⟨g, 0, none⟩ (.bool ng)).setCell ⟨g, 1, none⟩ (.slice A l c)) := by
 obtain ⟨h1, h2⟩ := hI.parts
 refine ⟨_, rfl, ⟨.slice A l c, by rw [h1], ?_⟩, Xz (Ja hB hc) hg _ _⟩
 rw [World.size_setCell, World.size_setCell]
 exact h2.set2 hr (Zg _) (Xa _ _ _) _ _ (Zg _)
theorem Qj {w W wn : World} {q : Rat} {g l c l' c' : Nat} {t : TypeId} {ng : Bool} {A A' : Option Addr} (hB : Below w.heap.size w W) (hc : Below W.heap.size W wn) (hQ : IsQ wn wn.heap.size (.agg #[.bool ng, .slice A l c, .slice A' l' c']) q)
  (hr : Blk wn g t #[.bool false, .slice none 0 0, .slice none 0 0]) (hg : w.heap.size <= g) : Vz q w (.returned (.agg #[.bool ng, .slice A l c, .slice A' l' c'])) (((wn.setCell ⟨g, 0, none⟩ (.bool ng)).setCell ⟨g, 1, none⟩ (.slice A l c)).setCell ⟨g, 2, none⟩ (.slice A' l' c')) := by
 obtain ⟨h1, h2, h3⟩ := hQ.parts
 refine ⟨_, rfl, ⟨.slice A l c, .slice A' l' c', by rw [h1], ?_, ?_⟩, Kh (Ja hB hc) hg _ _ _⟩
 ·rw [World.size_setCell, World.size_setCell, World.size_setCell]
  exact h2.set3 hr (Zg _) (Xa _ _ _) (Xa _ _ _) _ _ _ (Zg _) (Xa _ _ _)
 rw [World.size_setCell, World.size_setCell, World.size_setCell]
 exact h3.set3 hr (Zg _) (Xa _ _ _) (Xa _ _ _) _ _ _ (Zg _) (Xa _ _ _)
theorem Yk {n k : Nat} (h : Je n <= 274877906944) (hk : 8589934592 <= k) : (Jc n).length <= k := nt (Vr n 8589934592 (by omega)) hk
theorem Yi (neg : Bool) (a B : Nat) (va : Value) (w : World) (h : IsN w B va a) (hB : B <= w.heap.size) : Calls Tryz.prog 115 #[.bool neg, va] w (Ja1 (signed neg a) w) :=
 (Jry neg a B va w h hB).mono fun e w' ⟨h1, h2⟩ => ⟨_, h1, ⟨va, rfl, by rw [Jd9]; exact (h.next hB h2).more (nt hB h2.size)⟩, h2⟩
theorem Jeg (z : Int) (B : Nat) (V : Value) (w : World) (h : IsI w B V z) (aF : B <= w.heap.size) : Calls Tryz.prog 158 #[V] w (Ja1 (-z) w) := by
 obtain ⟨n0, A0, l0, c0c, rfl⟩ := h.shape
 obtain ⟨hd, hn⟩ := h.parts
 have hs : signed (!n0) z.natAbs = -z := by
  unfold signed
  rw [<- hd]
  by_cases h : z < 0
  ·rw [decide_eq_true h]; simp; omega
  rw [decide_eq_false h]; simp; omega
 have H := lh hn
 clear h hn hd
 obtain ⟨b0, b1, hB, hZ⟩ := bx2 w 68 #[.bool n0, .slice A0 l0 c0c] 68 #[.bool false, .slice none 0 0]
 go_enter Tryz.func158, Tryz.ntmps158
 go_wp2_with fail
 generalize ((w.alloc (.cells #[.bool n0, .slice A0 l0 c0c] 68)).alloc (.cells #[.bool false, .slice none 0 0] 68)) = W at *
 have aE : B <= W.heap.size := nt aF hB.size
 have bC : ∀ w', Below W.heap.size W w' -> Calls Tryz.prog 115 #[.bool (!n0), .slice A0 l0 c0c] w' (Ja1 (-z) w') := fun w' hb => by
  have := Yi (!n0) z.natAbs B _ w' ((H.out.next aF hB).next aE hb) (nt aE hb.size)
  rw [hs] at this
  exact this
 have HMK := lh bC
 clear bC hs
 have c0 := b0; have t7 := c0.lt; obtain ⟨j6, j7⟩ := c0.c2; have c1 := b1; have t8 := c1.lt; have hc := Below.refl W.heap.size W; go_wp2_with fail; refine (HMK.out _ hc).mono ?_; rintro e w1 ⟨v1, rfl, o5, s9⟩; obtain ⟨g1, A1, l1, c1c, aK⟩ := o5.shape; subst aK; (try clear j6 j7); obtain ⟨c0, j6, j7⟩ := c0.zc2 s9; (try clear t7); have t7 := c0.lt; have c1 := c1.below s9 c1.lt; (try clear t8); have t8 := c1.lt; have hc := Ja hc s9; obtain ⟨j9, o0, bI, bJ, aV, aW⟩ := c1.f2
 go_wp2
 refine bodyPost_ret (v := .agg #[.bool g1, .slice A1 l1 c1c]) (by simp [results, Tryz.results158, go_sem, aV, aW]) rfl ?_
 exact Zd hB hc o5 c1 (by omega)
theorem Jdi (z : Int) (B : Nat) (V : Value) (w : World) (h : IsI w B V z) : Calls Tryz.prog 90 #[V] w (Ret (.int .i64 z.sign) w) := by
 obtain ⟨n0, A0, l0, c0c, rfl⟩ := h.shape
 obtain ⟨hd, hn⟩ := h.parts
 have hl : l0 = (Jc z.natAbs).length := by
  obtain ⟨A', c', h1, _⟩ := hn
  injection h1
 have hz := Ko z.natAbs
 rw [<- hl] at hz
 have hs : (l0 = 0 /\ z.sign = 0) \/ (((l0 : Int) == 0) = false /\ n0 = true /\ z.sign = -1) \/ (((l0 : Int) == 0) = false /\ n0 = false /\ z.sign = 1) := by
  rcases Int.lt_trichotomy z 0 with h1 | h1 | h1
  ·right; left
   exact ⟨by simp; omega, by rw [<- hd]; exact decide_eq_true h1, Int.sign_eq_neg_one_of_neg h1⟩
  ·left
   subst h1
   exact ⟨hz.2 rfl, rfl⟩
  right; right
  exact ⟨by simp; omega, by rw [<- hd]; exact decide_eq_false (by omega), Int.sign_eq_one_of_pos h1⟩
 clear h hd hn hl hz
 obtain ⟨b0, hB, hZ⟩ := bx1 w 68 #[.bool n0, .slice A0 l0 c0c]
 rcases hs with ⟨rfl, h2⟩ | ⟨h1, rfl, h2⟩ | ⟨h1, rfl, h2⟩
 all_goals
  rw [h2]
  clear h2
  go_enter Tryz.func90, Tryz.ntmps90
  go_wp2
  go_ret
  exact ⟨rfl, hB⟩
theorem Joc {x y : Int} {n m : Bool} (hx : decide (x < 0) = n) (hy : decide (y < 0) = m) : (n = m -> signed n (x.natAbs + y.natAbs) = x + y) /\ (n ≠ m -> y.natAbs <= x.natAbs -> signed n (x.natAbs - y.natAbs) = x + y) /\ (n ≠ m -> x.natAbs < y.natAbs -> signed m (y.natAbs - x.natAbs) = x + y) := by
 unfold signed
 by_cases h1 : x < 0
 ·rw [decide_eq_true h1] at hx
  by_cases h2 : y < 0
  ·rw [decide_eq_true h2] at hy
   subst hx; subst hy
   simp
   omega
  rw [decide_eq_false h2] at hy
  subst hx; subst hy
  simp
  omega
 rw [decide_eq_false h1] at hx
 by_cases h2 : y < 0
 ·rw [decide_eq_true h2] at hy
  subst hx; subst hy
  simp
  omega
 rw [decide_eq_false h2] at hy
 subst hx; subst hy
 simp
 omega
theorem Jeh (x y : Int) (B : Nat) (V1 V2 : Value) (w : World) (h1 : IsI w B V1 x) (h2 : IsI w B V2 y) (aF : B <= w.heap.size) (hx : Je x.natAbs <= 274877906944) (hy : Je y.natAbs <= 274877906944) :
  Calls Tryz.prog 129 #[V1, V2] w (Ja1 (x + y) w) := by
 obtain ⟨n0, A0, l0, c0c, rfl⟩ := h1.shape
 obtain ⟨n9, A9, l9, c9c, rfl⟩ := h2.shape
 obtain ⟨aP, aQ⟩ := h1.parts
 obtain ⟨aR, aS⟩ := h2.parts
 obtain ⟨e1, e2, e3⟩ := Joc aP aR
 have s1 := Yk hx zd
 have s2 := Yk hy zd
 have H1 := lh aQ
 have H2 := lh aS
 have E1 := lh e1
 have E2 := lh e2
 have E3 := lh e3
 clear h1 h2 aQ aS aP aR e1 e2 e3 hx hy
 obtain ⟨b0, b1, b2, hB, hZ⟩ := bx3 w 68 #[.bool n0, .slice A0 l0 c0c] 68 #[.bool n9, .slice A9 l9 c9c] 68 #[.bool false, .slice none 0 0]
 have ne1 := neA w.heap.size
 have ne2 := neC w.heap.size
 have ne3 := neB w.heap.size
 have ne4 := neD w.heap.size
 go_enter Tryz.func129, Tryz.ntmps129
 go_upto_region 1 with fail
 generalize (((w.alloc (.cells #[.bool n0, .slice A0 l0 c0c] 68)).alloc (.cells #[.bool n9, .slice A9 l9 c9c] 68)).alloc (.cells #[.bool false, .slice none 0 0] 68)) = W at *
 have aE : B <= W.heap.size := nt aF hB.size
 have g1 : ∀ w', Below W.heap.size W w' -> IsN w' B (.slice A0 l0 c0c) x.natAbs := fun w' hb => (H1.out.next aF hB).next aE hb
 have g2 : ∀ w', Below W.heap.size W w' -> IsN w' B (.slice A9 l9 c9c) y.natAbs := fun w' hb => (H2.out.next aF hB).next aE hb
 have ha : ∀ w', Below W.heap.size W w' -> Calls Tryz.prog 159 #[.slice A0 l0 c0c, .slice A9 l9 c9c] w' (Jb4 (x.natAbs + y.natAbs) w') := fun w' hb => Jkp _ _ B _ _ w' (g1 w' hb) (g2 w' hb) (nt aE hb.size) (by omega) (by omega)
 have bD : ∀ w', Below W.heap.size W w' -> Calls Tryz.prog 70 #[.slice A0 l0 c0c, .slice A9 l9 c9c] w' (Ret (.int .i64 (Xd x.natAbs y.natAbs)) w') := fun w' hb => Jba _ _ B B _ _ w' (g1 w' hb) (g2 w' hb) (by omega) (by omega)
 have bE : y.natAbs <= x.natAbs -> ∀ w', Below W.heap.size W w' -> Calls Tryz.prog 160 #[.slice A0 l0 c0c, .slice A9 l9 c9c] w' (Jb4 (x.natAbs - y.natAbs) w') := fun aX w' hb => Jef _ _ B _ _ w' (g1 w' hb) (g2 w' hb) (nt aE hb.size) (by omega) aX
 have bF : x.natAbs <= y.natAbs -> ∀ w', Below W.heap.size W w' -> Calls Tryz.prog 160 #[.slice A9 l9 c9c, .slice A0 l0 c0c] w' (Jb4 (y.natAbs - x.natAbs) w') := fun aX w' hb => Jef _ _ B _ _ w' (g2 w' hb) (g1 w' hb) (nt aE hb.size) (by omega) aX
 generalize hxn : x.natAbs = X at *
 generalize aY : y.natAbs = Y at *
 have HA := lh ha
 have HC := lh bD
 have HS1 := lh bE
 have HS2 := lh bF
 clear ha bD bE bF g1 g2 hxn aY H1 H2
 by_cases aN : n0 = n9
 ·subst aN
  have bK : (n0 == n0) = true := by simp
  obtain ⟨y8, y9⟩ := b0.c2; obtain ⟨aA, aB⟩ := b1.c2
  have EI := lh (E1.out rfl)
  clear E1 E2 E3
  go_wp2_with fail
  obtain ⟨y8, y9⟩ := b0.c2; have c0 := b0.drew; have t7 := c0.lt; obtain ⟨aA, aB⟩ := b1.c2; have c1 := b1.drew; have t8 := c1.lt; have c2 := b2.drew; have aC := c2.lt; have hc := Jf W; go_region_held3 (fun w' => w'.cell? ⟨w.heap.size, 0, none⟩ = some (.bool n0) /\ w'.cell? ⟨w.heap.size, 1, none⟩ = some (.slice A0 l0 c0c) /\ w'.cell? ⟨w.heap.size + 1, 0, none⟩ = some (.bool n0) /\ w'.cell? ⟨w.heap.size + 1, 1, none⟩ = some (.slice A9 l9 c9c)) (go_keep) (first | (go_at_call 159; (with_reducible refine (HA.out _ hc).mono ?_); rintro e w1 ⟨v1, rfl, o5, s9⟩; obtain ⟨A1, l1, c1c, aK⟩ := o5.form; subst aK; (try clear j6 j7); obtain ⟨c0, j6, j7⟩ := c0.zc2 s9; (try clear t7); have t7 := c0.lt; (try clear j9 o0); obtain ⟨c1, j9, o0⟩ := c1.zc2 s9; (try clear t8); have t8 := c1.lt; have c2 := c2.below s9 c2.lt; (try clear aC); have aC := c2.lt; have hc := Ja hc s9) | (go_at_call 115; (with_reducible refine (Yi n0 (X + Y) _ _ _ o5 zd).mono ?_); rintro e w2 ⟨v2, rfl, aD, j8⟩; obtain ⟨g2, A2, l2, c2c, aM⟩ := aD.shape; subst aM; (try clear j6 j7); obtain ⟨c0, j6, j7⟩ := c0.zc2 j8; (try clear t7); have t7 := c0.lt; (try clear j9 o0); obtain ⟨c1, j9, o0⟩ := c1.zc2 j8; (try clear t8); have t8 := c1.lt; have c2 := c2.below j8 c2.lt; (try clear aC); have aC := c2.lt; have o5 := (o5.next zd j8).more j8.size; have hc := Ja hc j8; obtain ⟨aG, aH, aI, aJ, x8, x9⟩ := c2.f2))
  all_goals
   go_wp2
   refine bodyPost_ret (v := .agg #[.bool g2, .slice A2 l2 c2c]) (by simp [results, Tryz.results129, go_sem, x8, x9]) rfl ?_
   rw [<- EI.out]
   exact Zd hB hc aD c2 (by omega)
 have bK : (n0 == n9) = false := by simpa using aN
 obtain ⟨y8, y9⟩ := b0.c2; obtain ⟨aA, aB⟩ := b1.c2
 by_cases aO : X < Y
 ·have EI := lh (E3.out aN aO)
  have aZ : Xd X Y = -1 := Zs aO
  rw [aZ] at HC
  have HS := lh (HS2.out (Nat.le_of_lt aO))
  clear E1 E2 E3 aZ aN HS1 HS2 aO
  go_wp2_with fail
  refine (HC.out _ (Below.refl _ _)).mono ?_
  rintro e w5 ⟨rfl, aL⟩
  have b0 := b0.below aL b0.lt
  have b1 := b1.below aL b1.lt
  have b2 := b2.below aL b2.lt
  have bA := Ja hB aL
  have HS' : Hid (∀ w', Below w5.heap.size w5 w' -> Calls Tryz.prog 160 #[.slice A9 l9 c9c, .slice A0 l0 c0c] w' (Jb4 (Y - X) w')) := lh fun w' hb => HS.out w' (Ja aL hb)
  clear y8 y9 aA aB HS
  obtain ⟨y8, y9⟩ := b0.c2; obtain ⟨aA, aB⟩ := b1.c2
  go_wp2_with fail
  obtain ⟨y8, y9⟩ := b0.c2; have c0 := b0.drew; have t7 := c0.lt; obtain ⟨aA, aB⟩ := b1.c2; have c1 := b1.drew; have t8 := c1.lt; have c2 := b2.drew; have aC := c2.lt; have hc := Jf w5; go_region_held3 (fun w' => w'.cell? ⟨w.heap.size, 0, none⟩ = some (.bool n0) /\ w'.cell? ⟨w.heap.size, 1, none⟩ = some (.slice A0 l0 c0c) /\ w'.cell? ⟨w.heap.size + 1, 0, none⟩ = some (.bool n9) /\ w'.cell? ⟨w.heap.size + 1, 1, none⟩ = some (.slice A9 l9 c9c)) (go_keep) (first | (go_at_call 160; (with_reducible refine (HS'.out _ hc).mono ?_); rintro e w1 ⟨v1, rfl, o5, s9⟩; obtain ⟨A1, l1, c1c, aK⟩ := o5.form; subst aK; (try clear j6 j7); obtain ⟨c0, j6, j7⟩ := c0.zc2 s9; (try clear t7); have t7 := c0.lt; (try clear j9 o0); obtain ⟨c1, j9, o0⟩ := c1.zc2 s9; (try clear t8); have t8 := c1.lt; have c2 := c2.below s9 c2.lt; (try clear aC); have aC := c2.lt; have hc := Ja hc s9) | (go_at_call 115; (with_reducible refine (Yi n9 (Y - X) _ _ _ o5 zd).mono ?_); rintro e w2 ⟨v2, rfl, aD, j8⟩; obtain ⟨g2, A2, l2, c2c, aM⟩ := aD.shape; subst aM; (try clear j6 j7); obtain ⟨c0, j6, j7⟩ := c0.zc2 j8; (try clear t7); have t7 := c0.lt; (try clear j9 o0); obtain ⟨c1, j9, o0⟩ := c1.zc2 j8; (try clear t8); have t8 := c1.lt; have c2 := c2.below j8 c2.lt; (try clear aC); have aC := c2.lt; have o5 := (o5.next zd j8).more j8.size; have hc := Ja hc j8; obtain ⟨aG, aH, aI, aJ, x8, x9⟩ := c2.f2))
  all_goals
   go_wp2
   refine bodyPost_ret (v := .agg #[.bool g2, .slice A2 l2 c2c]) (by simp [results, Tryz.results129, go_sem, x8, x9]) rfl ?_
   rw [<- EI.out]
   exact Zd bA hc aD c2 (by omega)
 have EI := lh (E2.out aN (by omega))
 have aZ : 0 <= Xd X Y := by unfold Xd; rw [if_neg aO]; split <;> omega
 have HS := lh (HS1.out (by omega))
 generalize Xd X Y = cv at *
 clear E1 E2 E3 aN HS1 HS2 aO
 go_wp2_with fail
 refine (HC.out _ (Below.refl _ _)).mono ?_
 rintro e w5 ⟨rfl, aL⟩
 have b0 := b0.below aL b0.lt
 have b1 := b1.below aL b1.lt
 have b2 := b2.below aL b2.lt
 have bA := Ja hB aL
 have HS' : Hid (∀ w', Below w5.heap.size w5 w' -> Calls Tryz.prog 160 #[.slice A0 l0 c0c, .slice A9 l9 c9c] w' (Jb4 (X - Y) w')) := lh fun w' hb => HS.out w' (Ja aL hb)
 clear y8 y9 aA aB HS
 obtain ⟨y8, y9⟩ := b0.c2; obtain ⟨aA, aB⟩ := b1.c2
 go_wp2_with fail
 obtain ⟨y8, y9⟩ := b0.c2; have c0 := b0.drew; have t7 := c0.lt; obtain ⟨aA, aB⟩ := b1.c2; have c1 := b1.drew; have t8 := c1.lt; have c2 := b2.drew; have aC := c2.lt; have hc := Jf w5; go_region_held3 (fun w' => w'.cell? ⟨w.heap.size, 0, none⟩ = some (.bool n0) /\ w'.cell? ⟨w.heap.size, 1, none⟩ = some (.slice A0 l0 c0c) /\ w'.cell? ⟨w.heap.size + 1, 0, none⟩ = some (.bool n9) /\ w'.cell? ⟨w.heap.size + 1, 1, none⟩ = some (.slice A9 l9 c9c)) (go_keep) (first | (go_at_call 160; (with_reducible refine (HS'.out _ hc).mono ?_); rintro e w1 ⟨v1, rfl, o5, s9⟩; obtain ⟨A1, l1, c1c, aK⟩ := o5.form; subst aK; (try clear j6 j7); obtain ⟨c0, j6, j7⟩ := c0.zc2 s9; (try clear t7); have t7 := c0.lt; (try clear j9 o0); obtain ⟨c1, j9, o0⟩ := c1.zc2 s9; (try clear t8); have t8 := c1.lt; have c2 := c2.below s9 c2.lt; (try clear aC); have aC := c2.lt; have hc := Ja hc s9) | (go_at_call 115; (with_reducible refine (Yi n0 (X - Y) _ _ _ o5 zd).mono ?_); rintro e w2 ⟨v2, rfl, aD, j8⟩; obtain ⟨g2, A2, l2, c2c, aM⟩ := aD.shape; subst aM; (try clear j6 j7); obtain ⟨c0, j6, j7⟩ := c0.zc2 j8; (try clear t7); have t7 := c0.lt; (try clear j9 o0); obtain ⟨c1, j9, o0⟩ := c1.zc2 j8; (try clear t8); have t8 := c1.lt; have c2 := c2.below j8 c2.lt; (try clear aC); have aC := c2.lt; have o5 := (o5.next zd j8).more j8.size; have hc := Ja hc j8; obtain ⟨aG, aH, aI, aJ, x8, x9⟩ := c2.f2))
 all_goals
  go_wp2
  refine bodyPost_ret (v := .agg #[.bool g2, .slice A2 l2 c2c]) (by simp [results, Tryz.results129, go_sem, x8, x9]) rfl ?_
  rw [<- EI.out]
  exact Zd bA hc aD c2 (by omega)
theorem Jkq (x y : Int) (B : Nat) (V1 V2 : Value) (w : World) (h1 : IsI w B V1 x) (h2 : IsI w B V2 y) (aF : B <= w.heap.size) (hx : Je x.natAbs <= 274877906944) (hy : Je y.natAbs <= 274877906944) :
  Calls Tryz.prog 126 #[V1, V2] w (Ja1 (x - y) w) := by
 obtain ⟨n0, A0, l0, c0c, rfl⟩ := h1.shape
 obtain ⟨n9, A9, l9, c9c, rfl⟩ := h2.shape
 have H1 := lh h1
 have H2 := lh h2
 clear h1 h2
 have aY : Je (-y).natAbs <= 274877906944 := by rw [Int.natAbs_neg]; exact hy
 obtain ⟨b0, b1, b2, hB, hZ⟩ := bx3 w 68 #[.bool n0, .slice A0 l0 c0c] 68 #[.bool n9, .slice A9 l9 c9c] 68 #[.bool false, .slice none 0 0]
 have ne1 := neA w.heap.size
 have ne2 := neC w.heap.size
 have ne3 := neB w.heap.size
 have ne4 := neD w.heap.size
 go_enter Tryz.func126, Tryz.ntmps126
 go_upto_region 1 with fail
 generalize (((w.alloc (.cells #[.bool n0, .slice A0 l0 c0c] 68)).alloc (.cells #[.bool n9, .slice A9 l9 c9c] 68)).alloc (.cells #[.bool false, .slice none 0 0] 68)) = W at *
 have aE : B <= W.heap.size := nt aF hB.size
 have g1 : ∀ w', Below W.heap.size W w' -> IsI w' w'.heap.size (.agg #[.bool n0, .slice A0 l0 c0c]) x := fun w' hb => ((H1.out.next aF hB).next aE hb).more (nt aE hb.size)
 have g2 : ∀ w', Below W.heap.size W w' -> Calls Tryz.prog 158 #[.agg #[.bool n9, .slice A9 l9 c9c]] w' (Ja1 (-y) w') := fun w' hb => Jeg y B _ w' ((H2.out.next aF hB).next aE hb) (nt aE hb.size)
 have G1 := lh g1
 have G2 := lh g2
 clear g1 g2 H1 H2
 obtain ⟨y8, y9⟩ := b0.c2; obtain ⟨aA, aB⟩ := b1.c2
 obtain ⟨y8, y9⟩ := b0.c2; have c0 := b0.drew; have t7 := c0.lt; obtain ⟨aA, aB⟩ := b1.c2; have c1 := b1.drew; have t8 := c1.lt; have c2 := b2.drew; have aC := c2.lt; have hc := Jf W; go_region_held3 (fun w' => w'.cell? ⟨w.heap.size, 0, none⟩ = some (.bool n0) /\ w'.cell? ⟨w.heap.size, 1, none⟩ = some (.slice A0 l0 c0c) /\ w'.cell? ⟨w.heap.size + 1, 0, none⟩ = some (.bool n9) /\ w'.cell? ⟨w.heap.size + 1, 1, none⟩ = some (.slice A9 l9 c9c)) (go_keep) (first | (go_at_call 158; (with_reducible refine (G2.out _ hc).mono ?_); rintro e w1 ⟨v1, rfl, o5, s9⟩; obtain ⟨g1, A1, l1, c1c, aK⟩ := o5.shape; subst aK; (try clear j6 j7); obtain ⟨c0, j6, j7⟩ := c0.zc2 s9; (try clear t7); have t7 := c0.lt; (try clear j9 o0); obtain ⟨c1, j9, o0⟩ := c1.zc2 s9; (try clear t8); have t8 := c1.lt; have c2 := c2.below s9 c2.lt; (try clear aC); have aC := c2.lt; have hc := Ja hc s9) | (go_at_call 129; (with_reducible refine (Jeh x (-y) _ _ _ _ (G1.out _ hc) o5 zd hx aY).mono ?_); rintro e w2 ⟨v2, rfl, aD, j8⟩; obtain ⟨g2, A2, l2, c2c, aM⟩ := aD.shape; subst aM; (try clear j6 j7); obtain ⟨c0, j6, j7⟩ := c0.zc2 j8; (try clear t7); have t7 := c0.lt; (try clear j9 o0); obtain ⟨c1, j9, o0⟩ := c1.zc2 j8; (try clear t8); have t8 := c1.lt; have c2 := c2.below j8 c2.lt; (try clear aC); have aC := c2.lt; have o5 := (o5.next zd j8).more j8.size; have hc := Ja hc j8; obtain ⟨aG, aH, aI, aJ, x8, x9⟩ := c2.f2))
 all_goals
  go_wp2
  refine bodyPost_ret (v := .agg #[.bool g2, .slice A2 l2 c2c]) (by simp [results, Tryz.results126, go_sem, x8, x9]) rfl ?_
  exact Zd hB hc aD c2 (by omega)
theorem Jna {x y : Int} {n m : Bool} (hx : decide (x < 0) = n) (hy : decide (y < 0) = m) : signed (!(n == m)) (x.natAbs * y.natAbs) = x * y := by
 subst hx
 subst hy
 exact Jd8 _ _
theorem Zw (x y : Int) (B : Nat) (V1 V2 : Value) (w : World) (h1 : IsI w B V1 x) (h2 : IsI w B V2 y) (aF : B <= w.heap.size) (hx : Je x.natAbs <= 274877906944) (hy : Je y.natAbs <= 274877906944) :
  Calls Tryz.prog 92 #[V1, V2] w (Ja1 (x * y) w) := by
 obtain ⟨n0, A0, l0, c0c, rfl⟩ := h1.shape
 obtain ⟨n9, A9, l9, c9c, rfl⟩ := h2.shape
 obtain ⟨aP, aQ⟩ := h1.parts
 obtain ⟨aR, aS⟩ := h2.parts
 have aT := Jna aP aR
 have s1 := Yk hx zd
 have s2 := Yk hy zd
 have H1 := lh aQ
 have H2 := lh aS
 clear h1 h2 aQ aS aP aR hx hy
 obtain ⟨b0, b1, b2, hB, hZ⟩ := bx3 w 68 #[.bool n0, .slice A0 l0 c0c] 68 #[.bool n9, .slice A9 l9 c9c] 68 #[.bool false, .slice none 0 0]
 have ne1 := neA w.heap.size
 have ne2 := neC w.heap.size
 have ne3 := neB w.heap.size
 have ne4 := neD w.heap.size
 go_enter Tryz.func92, Tryz.ntmps92
 go_upto_region 1 with fail
 generalize (((w.alloc (.cells #[.bool n0, .slice A0 l0 c0c] 68)).alloc (.cells #[.bool n9, .slice A9 l9 c9c] 68)).alloc (.cells #[.bool false, .slice none 0 0] 68)) = W at *
 have aE : B <= W.heap.size := nt aF hB.size
 have ha : ∀ w', Below W.heap.size W w' -> Calls Tryz.prog 127 #[.slice A0 l0 c0c, .slice A9 l9 c9c] w' (Jb4 (x.natAbs * y.natAbs) w') := fun w' hb => Jbu _ _ B _ _ w' ((H1.out.next aF hB).next aE hb) ((H2.out.next aF hB).next aE hb) (nt aE hb.size) (by omega) (by omega)
 generalize x.natAbs * y.natAbs = P at *
 have bG : ∀ w' v, IsN w' w'.heap.size v P -> Calls Tryz.prog 115 #[.bool (!(n0 == n9)), v] w' (Ja1 (x * y) w') := fun w' v hv => by
  have := Yi (!(n0 == n9)) P _ v w' hv zd
  rw [aT] at this
  exact this
 have HA := lh ha
 have HM := lh bG
 clear ha bG aT H1 H2
 obtain ⟨y8, y9⟩ := b0.c2; obtain ⟨aA, aB⟩ := b1.c2
 obtain ⟨y8, y9⟩ := b0.c2; have c0 := b0.drew; have t7 := c0.lt; obtain ⟨aA, aB⟩ := b1.c2; have c1 := b1.drew; have t8 := c1.lt; have c2 := b2.drew; have aC := c2.lt; have hc := Jf W; go_region_held3 (fun w' => w'.cell? ⟨w.heap.size, 0, none⟩ = some (.bool n0) /\ w'.cell? ⟨w.heap.size, 1, none⟩ = some (.slice A0 l0 c0c) /\ w'.cell? ⟨w.heap.size + 1, 0, none⟩ = some (.bool n9) /\ w'.cell? ⟨w.heap.size + 1, 1, none⟩ = some (.slice A9 l9 c9c)) (go_keep) (first | (go_at_call 127; (with_reducible refine (HA.out _ hc).mono ?_); rintro e w1 ⟨v1, rfl, o5, s9⟩; obtain ⟨A1, l1, c1c, aK⟩ := o5.form; subst aK; (try clear j6 j7); obtain ⟨c0, j6, j7⟩ := c0.zc2 s9; (try clear t7); have t7 := c0.lt; (try clear j9 o0); obtain ⟨c1, j9, o0⟩ := c1.zc2 s9; (try clear t8); have t8 := c1.lt; have c2 := c2.below s9 c2.lt; (try clear aC); have aC := c2.lt; have hc := Ja hc s9) | (go_at_call 115; (with_reducible refine (HM.out _ _ o5).mono ?_); rintro e w2 ⟨v2, rfl, aD, j8⟩; obtain ⟨g2, A2, l2, c2c, aM⟩ := aD.shape; subst aM; (try clear j6 j7); obtain ⟨c0, j6, j7⟩ := c0.zc2 j8; (try clear t7); have t7 := c0.lt; (try clear j9 o0); obtain ⟨c1, j9, o0⟩ := c1.zc2 j8; (try clear t8); have t8 := c1.lt; have c2 := c2.below j8 c2.lt; (try clear aC); have aC := c2.lt; have o5 := (o5.next zd j8).more j8.size; have hc := Ja hc j8; obtain ⟨aG, aH, aI, aJ, x8, x9⟩ := c2.f2))
 all_goals
  go_wp2
  refine bodyPost_ret (v := .agg #[.bool g2, .slice A2 l2 c2c]) (by simp [results, Tryz.results92, go_sem, x8, x9]) rfl ?_
  exact Zd hB hc aD c2 (by omega)
theorem Jkr (x y : Int) (B : Nat) (V1 V2 : Value) (w : World) (h1 : IsI w B V1 x) (h2 : IsI w B V2 y) (aF : B <= w.heap.size) (hx : Je x.natAbs <= 274877906944) (hy : Je y.natAbs <= 274877906944) :
  Calls Tryz.prog 91 #[V1, V2] w (Ret (.int .i64 (x - y).sign) w) := by
 obtain ⟨n0, A0, l0, c0c, rfl⟩ := h1.shape
 obtain ⟨n9, A9, l9, c9c, rfl⟩ := h2.shape
 have H1 := lh h1
 have H2 := lh h2
 clear h1 h2
 obtain ⟨b0, b1, hB, hZ⟩ := bx2 w 68 #[.bool n0, .slice A0 l0 c0c] 68 #[.bool n9, .slice A9 l9 c9c]
 go_enter Tryz.func91, Tryz.ntmps91
 go_wp2_with fail
 generalize ((w.alloc (.cells #[.bool n0, .slice A0 l0 c0c] 68)).alloc (.cells #[.bool n9, .slice A9 l9 c9c] 68)) = W at *
 have aE : B <= W.heap.size := nt aF hB.size
 have aU := Jkq x y B _ _ W (H1.out.next aF hB) (H2.out.next aF hB) aE hx hy
 generalize x - y = z at *
 have HS := lh aU
 clear aU H1 H2
 refine HS.out.mono ?_
 rintro e w1 ⟨v1, rfl, o5, s9⟩
 obtain ⟨g1, A1, l1, c1, rfl⟩ := o5.shape
 go_wp2_with fail
 refine (Jdi z _ _ w1 o5).mono ?_
 rintro e w2 ⟨rfl, j8⟩
 go_wp2
 go_ret
 exact ⟨rfl, Ja (Ja hB s9) j8⟩
theorem Jcw (z : Int) (w : World) (h0 : -9223372036854775808 <= z) (h1 : z <= 9223372036854775807) : Calls Tryz.prog 77 #[.int .i64 z] w (Ja1 z w) := by
 have b0 := Blk.new w 68 #[.bool false, .slice none 0 0]
 have hB := Jb w (.cells #[.bool false, .slice none 0 0] 68)
 have bH := b0.lt
 by_cases hz : z < 0
 ·obtain ⟨a, ha⟩ : ∃ a : Nat, (a : Int) = -z := ⟨z.natAbs, by omega⟩
  have e1 : IntKind.u64.wrap (-(IntKind.u64.wrap z)) = (a : Int) := by
   simp only [IntKind.wrap, IntKind.bits, IntKind.signed]
   simp
   omega
  have bB : a < 18446744073709551616 := by omega
  have aT : signed true a = z := by unfold signed; simp; omega
  have bL : decide (z < 0) = true := decide_eq_true hz
  have HM : Hid (∀ w' v, IsN w' w'.heap.size v a -> Calls Tryz.prog 115 #[.bool true, v] w' (Ja1 z w')) := lh fun w' v hv => by
   have := Yi true a _ v w' hv zd
   rw [aT] at this
   exact this
  clear aT ha
  go_enter Tryz.func77, Tryz.ntmps77
  go_wp2_with fail
  generalize w.alloc (.cells #[.bool false, .slice none 0 0] 68) = W at *
  refine (Ja8 a W bB).mono ?_
  rintro e w1 ⟨v1, rfl, o5, s9⟩
  obtain ⟨A1, l1, c1, rfl⟩ := o5.form
  have b0 := b0.below s9 bH
  go_wp2_with fail
  refine (HM.out _ _ o5).mono ?_
  rintro e w2 ⟨v2, rfl, aD, j8⟩
  obtain ⟨g2, A2, l2, c2, rfl⟩ := aD.shape
  have c2 := b0.below j8 b0.lt
  obtain ⟨aG, aH, aI, aJ, x8, x9⟩ := c2.f2
  go_wp2
  refine bodyPost_ret (v := .agg #[.bool g2, .slice A2 l2 _]) (by simp [results, Tryz.results77, go_sem, x8, x9]; rfl) rfl ?_
  exact Zd hB (Ja s9 j8) aD c2 (by omega)
 obtain ⟨a, ha⟩ : ∃ a : Nat, (a : Int) = z := ⟨z.natAbs, by omega⟩
 subst ha
 have bB : a < 18446744073709551616 := by omega
 have e1 : IntKind.u64.wrap (a : Int) = (a : Int) := by rw [Jd _ (by omega) (by omega)]
 have HM : Hid (∀ w' v, IsN w' w'.heap.size v a -> Calls Tryz.prog 115 #[.bool false, v] w' (Ja1 (a : Int) w')) := lh fun w' v hv => Yi false a _ v w' hv zd
 go_enter Tryz.func77, Tryz.ntmps77
 go_wp2_with fail
 generalize w.alloc (.cells #[.bool false, .slice none 0 0] 68) = W at *
 refine (Ja8 a W bB).mono ?_
 rintro e w1 ⟨v1, rfl, o5, s9⟩
 obtain ⟨A1, l1, c1, rfl⟩ := o5.form
 have b0 := b0.below s9 bH
 go_wp2_with fail
 refine (HM.out _ _ o5).mono ?_
 rintro e w2 ⟨v2, rfl, aD, j8⟩
 obtain ⟨g2, A2, l2, c2, rfl⟩ := aD.shape
 have c2 := b0.below j8 b0.lt
 obtain ⟨aG, aH, aI, aJ, x8, x9⟩ := c2.f2
 go_wp2
 refine bodyPost_ret (v := .agg #[.bool g2, .slice A2 l2 _]) (by simp [results, Tryz.results77, go_sem, x8, x9]; rfl) rfl ?_
 exact Zd hB (Ja s9 j8) aD c2 (by omega)
