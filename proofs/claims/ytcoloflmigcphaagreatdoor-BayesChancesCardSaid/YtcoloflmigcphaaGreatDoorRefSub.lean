import Derived.Test.YtcoloflmigcphaaGreatDoorRefQ
namespace Go.Proofs.YtcoloflmigcphaaGreatDoor
set_option maxRecDepth 100000
set_option maxHeartbeats 1000000
open Go.RowKit
set_option linter.all false
theorem Jvt (a b : Rat) : Rat.divInt (a.num * (b.den : Int)) ((a.den : Int) * b.num) = a / b := by
 rw [Rat.div_def, Rat.inv_def]
 conv => rhs; rw [<- Rat.num_divInt_den a]
 rw [Rat.divInt_mul_divInt]
theorem Jvg (a b : Rat) (B : Nat) (V1 V2 : Value) (w : World) (h1 : IsQ w B V1 a) (h2 : IsQ w B V2 b) (o9 : B <= w.heap.size) (ha : QS 68719476736 a) (hb : QS 68719476736 b) (aM : b ≠ 0) :
  Calls Tryz.prog 75 #[V1, V2] w (Jmv (a / b) w) := by
 have aN : b.num ≠ 0 := fun e => aM (Rat.num_eq_zero.1 e)
 obtain ⟨n0, A0, l0, c0c, A0', l0', c0c', rfl⟩ := h1.shape
 obtain ⟨n9, A9, l9, c9c, A9', l9', c9c', rfl⟩ := h2.shape
 have H1 := lh h1
 have H2 := lh h2
 obtain ⟨s1, s2⟩ := ha.blens (by omega)
 obtain ⟨s3, s4⟩ := hb.blens (by omega)
 have aO : ∀ w' V V', IsI w' w'.heap.size V (a.num * (b.den : Int)) -> IsI w' w'.heap.size V' ((a.den : Int) * b.num) -> Calls Tryz.prog 96 #[V, V'] w' (Jmv (a / b) w') := fun w' V V' g1 g2 => by
  have := Jk1 _ _ _ V V' w' g1 g2 zd (Jre (nt (Jrd ha.1 (by rw [Int.natAbs_natCast]; exact hb.2)) (by omega)) (by omega))
   (Jre (nt (Jrd (by rw [Int.natAbs_natCast]; exact ha.2) hb.1) (by omega)) (by omega)) (Int.mul_ne_zero (by have := a.den_nz; omega) aN)
  rw [Jvt] at this
  exact this
 have HMK := lh aO
 clear aO h1 h2 ha hb aN aM
 obtain ⟨b0, b1, b2, hB, hZ⟩ := bx3 w 28 #[.bool n0, .slice A0 l0 c0c, .slice A0' l0' c0c'] 28 #[.bool n9, .slice A9 l9 c9c, .slice A9' l9' c9c'] 28 #[.bool false, .slice none 0 0, .slice none 0 0]
 have ne1 := neA w.heap.size
 have ne2 := neC w.heap.size
 have ne3 := neB w.heap.size
 have ne4 := neD w.heap.size
 go_enter Tryz.func75, Tryz.ntmps75
 go_upto_region 1 with fail
 generalize (((w.alloc (.cells #[.bool n0, .slice A0 l0 c0c, .slice A0' l0' c0c'] 28)).alloc (.cells #[.bool n9, .slice A9 l9 c9c, .slice A9' l9' c9c'] 28)).alloc (.cells #[.bool false, .slice none 0 0, .slice none 0 0] 28)) = W at *
 have j9 : B <= W.heap.size := nt o9 hB.size
 have G1 : Hid (∀ w', Below W.heap.size W w' -> IsQ w' w'.heap.size (.agg #[.bool n0, .slice A0 l0 c0c, .slice A0' l0' c0c']) a) := lh fun w' hb => ((H1.out.next o9 hB).next j9 hb).more (nt j9 hb.size)
 have G2 : Hid (∀ w', Below W.heap.size W w' -> IsQ w' w'.heap.size (.agg #[.bool n9, .slice A9 l9 c9c, .slice A9' l9' c9c']) b) := lh fun w' hb => ((H2.out.next o9 hB).next j9 hb).more (nt j9 hb.size)
 clear H1 H2
 obtain ⟨p9, s9, y9⟩ := b0.c3; obtain ⟨aA, aB, aC⟩ := b1.c3
 obtain ⟨p9, s9, y9⟩ := b0.c3; have c0 := b0.drew; have aP := c0.lt; obtain ⟨aA, aB, aC⟩ := b1.c3; have c1 := b1.drew; have aQ := c1.lt; have c2 := b2.drew; have aR := c2.lt; have hc := Jt W; go_region_held3 (fun w' => w'.cell? ⟨w.heap.size, 0, none⟩ = some (.bool n0) /\ w'.cell? ⟨w.heap.size, 1, none⟩ = some (.slice A0 l0 c0c) /\ w'.cell? ⟨w.heap.size, 2, none⟩ = some (.slice A0' l0' c0c') /\ w'.cell? ⟨w.heap.size + 1, 0, none⟩ = some (.bool n9) /\ w'.cell? ⟨w.heap.size + 1, 1, none⟩ = some (.slice A9 l9 c9c) /\ w'.cell? ⟨w.heap.size + 1, 2, none⟩ = some (.slice A9' l9' c9c')) (go_keep) (first | ((first | (go_at_call 117; (with_reducible refine (Jrp b _ _ _ (G2.out _ hc) zd).mono ?_); rintro e w1 ⟨v1, rfl, j6, j0⟩; obtain ⟨g1, A1, l1, c1c, aT⟩ := j6.shape; subst aT) | (go_at_call 114; (with_reducible refine (Jrc _ _ _ _ _ _ (G1.out _ hc).num j6 zd s1 s4).mono ?_); rintro e w2 ⟨v2, rfl, j7, j0⟩; obtain ⟨g2, A2, l2, c2c, aU⟩ := j7.shape; subst aU; have j6 := (j6.next zd j0).more j0.size) | (go_at_call 117; (with_reducible refine (Jrp a _ _ _ (G1.out _ hc) zd).mono ?_); rintro e w3 ⟨v3, rfl, j8, j0⟩; obtain ⟨g3, A3, l3, c3c, aV⟩ := j8.shape; subst aV; have j6 := (j6.next zd j0).more j0.size; have j7 := (j7.next zd j0).more j0.size) | (go_at_call 114; (with_reducible refine (Jrc _ _ _ _ _ _ j8 (G2.out _ hc).num zd s2 s3).mono ?_); rintro e w4 ⟨v4, rfl, o0, j0⟩; obtain ⟨g4, A4, l4, c4c, aW⟩ := o0.shape; subst aW; have j6 := (j6.next zd j0).more j0.size; have j7 := (j7.next zd j0).more j0.size; have j8 := (j8.next zd j0).more j0.size) | (go_at_call 96; (with_reducible refine (HMK.out _ _ _ j7 o0).mono ?_); rintro e w5 ⟨v5, rfl, aS, j0⟩; obtain ⟨g5, A5, l5, c5c, A5', l5', c5c', aX⟩ := aS.shape; subst aX; have j6 := (j6.next zd j0).more j0.size; have j7 := (j7.next zd j0).more j0.size; have j8 := (j8.next zd j0).more j0.size; have o0 := (o0.next zd j0).more j0.size; have lst := True.intro)); (try clear aD aE aF); obtain ⟨c0, aD, aE, aF⟩ := c0.zc3 j0; (try clear aP); have aP := c0.lt; (try clear aG aH aI); obtain ⟨c1, aG, aH, aI⟩ := c1.zc3 j0; (try clear aQ); have aQ := c1.lt; have c2 := c2.below j0 c2.lt; (try clear aR); have aR := c2.lt; have hc := Ja hc j0; (try (clear lst; obtain ⟨aY, aZ, bA, bB, bC, bD, aJ, aK, aL⟩ := c2.f3))))
 all_goals
  go_wp2
  refine bodyPost_ret (v := .agg #[.bool g5, .slice A5 l5 c5c, .slice A5' l5' c5c']) (by simp [results, Tryz.results75, go_sem, aJ, aK, aL]) rfl ?_
  exact Jd4 hB hc aS c2 (by omega)
