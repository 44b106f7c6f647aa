import Derived.Test.YtacbcaebaomglaaGreatDoorRefQ
namespace Go.Proofs.YtacbcaebaomglaaGreatDoor
set_option maxRecDepth 100000
set_option maxHeartbeats 1000000
open Go.RowKit
set_option linter.all false
theorem Jnb (q : Rat) (B : Nat) (V : Value) (w : World) (h : IsQ w B V q) (p9 : B <= w.heap.size) : Calls Tryz.prog 167 #[V] w (Jak (-q) w) := by
 obtain ⟨n0, A0, l0, c0c, A9, l9, c9c, rfl⟩ := h.shape
 have H := lh h
 have H9 := lh h.parts.2.2
 have E1 := lh (Rat.neg_num q)
 have E2 := lh (Rat.neg_den q)
 clear h
 obtain ⟨b0, b1, hB, hZ⟩ := bx2 w 56 #[.bool n0, .slice A0 l0 c0c, .slice A9 l9 c9c] 56 #[.bool false, .slice none 0 0, .slice none 0 0]
 have ne1 := neE w.heap.size
 have ne2 := neF w.heap.size
 go_enter Tryz.func167, Tryz.ntmps167
 go_upto_region 1 with fail
 generalize ((w.alloc (.cells #[.bool n0, .slice A0 l0 c0c, .slice A9 l9 c9c] 56)).alloc (.cells #[.bool false, .slice none 0 0, .slice none 0 0] 56)) = W at *
 have o8 : B <= W.heap.size := nt p9 hB.size
 have aD : ∀ w', Below W.heap.size W w' -> Calls Tryz.prog 184 #[.agg #[.bool n0, .slice A0 l0 c0c]] w' (Jal (-q.num) w') := fun w' hb => Jdp q.num B _ w' ((H.out.next p9 hB).next o8 hb).num (nt o8 hb.size)
 have HMK := lh aD
 have G9 : Hid (∀ w', Below W.heap.size W w' -> IsN w' w'.heap.size (.slice A9 l9 c9c) q.den) := lh fun w' hb => ((H9.out.next p9 hB).next o8 hb).more (nt o8 hb.size)
 clear aD H H9
 obtain ⟨q8, s9, t7⟩ := b0.c3
 obtain ⟨q8, s9, t7⟩ := b0.c3; have c0 := b0.drew; have j9 := c0.lt; have c1 := b1.drew; have o0 := c1.lt; have hc := Ji W; go_region_held3 (fun w' => w'.cell? ⟨w.heap.size, 0, none⟩ = some (.bool n0) /\ w'.cell? ⟨w.heap.size, 1, none⟩ = some (.slice A0 l0 c0c) /\ w'.cell? ⟨w.heap.size, 2, none⟩ = some (.slice A9 l9 c9c)) (go_keep) (first | (go_at_call 184; (with_reducible refine (HMK.out _ hc).mono ?_); rintro e w1 ⟨v1, rfl, o6, o9⟩; obtain ⟨g1, A1, l1, c1c, aE⟩ := o6.shape; subst aE; (try clear e8 e9 j0); obtain ⟨c0, e8, e9, j0⟩ := c0.zc3 o9; (try clear j9); have j9 := c0.lt; have c1 := c1.below o9 c1.lt; (try clear o0); have o0 := c1.lt; have hc := Ja hc o9; obtain ⟨j6, j7, j8, aU, aV, aW, aG, aH, aI⟩ := c1.f3))
 all_goals
  go_wp2
  refine bodyPost_ret (v := .agg #[.bool g1, .slice A1 l1 c1c, .slice A9 l9 c9c]) (by simp [results, Tryz.results167, go_sem, aG, aH, aI]) rfl ?_
  refine Zg hB hc (IsQ.mk (q := -q) ?_ ?_) c1 (by omega)
  ·rw [E1.out]; exact o6
  rw [E2.out]; exact G9.out _ hc
theorem Jm9 (a b : Rat) (B : Nat) (V1 V2 : Value) (w : World) (h1 : IsQ w B V1 a) (h2 : IsQ w B V2 b) (p9 : B <= w.heap.size) (ha : QS 68719476736 a) (hb : QS 68719476736 b) :
  Calls Tryz.prog 131 #[V1, V2] w (Jak (a - b) w) := by
 rw [Rat.sub_eq_add_neg]
 obtain ⟨n0, A0, l0, c0c, A0', l0', c0c', rfl⟩ := h1.shape
 obtain ⟨n9, A9, l9, c9c, A9', l9', c9c', rfl⟩ := h2.shape
 have H1 := lh h1
 have H2 := lh h2
 have aQ := hb.neg
 clear h1 h2
 obtain ⟨b0, b1, b2, hB, hZ⟩ := bx3 w 56 #[.bool n0, .slice A0 l0 c0c, .slice A0' l0' c0c'] 56 #[.bool n9, .slice A9 l9 c9c, .slice A9' l9' c9c'] 56 #[.bool false, .slice none 0 0, .slice none 0 0]
 have ne1 := neA w.heap.size
 have ne2 := neC w.heap.size
 have ne3 := neB w.heap.size
 have ne4 := neD w.heap.size
 go_enter Tryz.func131, Tryz.ntmps131
 go_upto_region 1 with fail
 generalize (((w.alloc (.cells #[.bool n0, .slice A0 l0 c0c, .slice A0' l0' c0c'] 56)).alloc (.cells #[.bool n9, .slice A9 l9 c9c, .slice A9' l9' c9c'] 56)).alloc (.cells #[.bool false, .slice none 0 0, .slice none 0 0] 56)) = W at *
 have o8 : B <= W.heap.size := nt p9 hB.size
 have G1 : Hid (∀ w', Below W.heap.size W w' -> IsQ w' w'.heap.size (.agg #[.bool n0, .slice A0 l0 c0c, .slice A0' l0' c0c']) a) := lh fun w' hb => ((H1.out.next p9 hB).next o8 hb).more (nt o8 hb.size)
 have G2 : Hid (∀ w', Below W.heap.size W w' -> IsQ w' w'.heap.size (.agg #[.bool n9, .slice A9 l9 c9c, .slice A9' l9' c9c']) b) := lh fun w' hb => ((H2.out.next p9 hB).next o8 hb).more (nt o8 hb.size)
 have HA := lh ha
 have HB := lh aQ
 clear H1 H2 ha hb aQ
 obtain ⟨q8, s9, t7⟩ := b0.c3; obtain ⟨x8, x9, y8⟩ := b1.c3
 obtain ⟨q8, s9, t7⟩ := b0.c3; have c0 := b0.drew; have j9 := c0.lt; obtain ⟨x8, x9, y8⟩ := b1.c3; have c1 := b1.drew; have o0 := c1.lt; have c2 := b2.drew; have o7 := c2.lt; have hc := Ji W; go_region_held3 (fun w' => w'.cell? ⟨w.heap.size, 0, none⟩ = some (.bool n0) /\ w'.cell? ⟨w.heap.size, 1, none⟩ = some (.slice A0 l0 c0c) /\ w'.cell? ⟨w.heap.size, 2, none⟩ = some (.slice A0' l0' c0c') /\ w'.cell? ⟨w.heap.size + 1, 0, none⟩ = some (.bool n9) /\ w'.cell? ⟨w.heap.size + 1, 1, none⟩ = some (.slice A9 l9 c9c) /\ w'.cell? ⟨w.heap.size + 1, 2, none⟩ = some (.slice A9' l9' c9c')) (go_keep) (first | (go_at_call 167; (with_reducible refine (Jnb b _ _ _ (G2.out _ hc) zd).mono ?_); rintro e w1 ⟨v1, rfl, o6, o9⟩; obtain ⟨g1, A1, l1, c1c, A1', l1', c1c', aE⟩ := o6.shape; subst aE; (try clear e8 e9 j0); obtain ⟨c0, e8, e9, j0⟩ := c0.zc3 o9; (try clear j9); have j9 := c0.lt; (try clear j6 j7 j8); obtain ⟨c1, j6, j7, j8⟩ := c1.zc3 o9; (try clear o0); have o0 := c1.lt; have c2 := c2.below o9 c2.lt; (try clear o7); have o7 := c2.lt; have hc := Ja hc o9) | (go_at_call 94; (with_reducible refine (Jda a (-b) _ _ _ _ (G1.out _ hc) o6 zd HA.out HB.out).mono ?_); rintro e w2 ⟨v2, rfl, t8, p7⟩; obtain ⟨g2, A2, l2, c2c, A2', l2', c2c', aJ⟩ := t8.shape; subst aJ; (try clear e8 e9 j0); obtain ⟨c0, e8, e9, j0⟩ := c0.zc3 p7; (try clear j9); have j9 := c0.lt; (try clear j6 j7 j8); obtain ⟨c1, j6, j7, j8⟩ := c1.zc3 p7; (try clear o0); have o0 := c1.lt; have c2 := c2.below p7 c2.lt; (try clear o7); have o7 := c2.lt; have o6 := (o6.next zd p7).more p7.size; have hc := Ja hc p7; obtain ⟨aK, aL, aM, aN, aO, aP, y9, aA, aB⟩ := c2.f3))
 all_goals
  go_wp2
  refine bodyPost_ret (v := .agg #[.bool g2, .slice A2 l2 c2c, .slice A2' l2' c2c']) (by simp [results, Tryz.results131, go_sem, y9, aA, aB]) rfl ?_
  exact Zg hB hc t8 c2 (by omega)
theorem Jl7 (a b : Rat) : Rat.divInt (a.num * (b.den : Int)) ((a.den : Int) * b.num) = a / b := by
 rw [Rat.div_def, Rat.inv_def]
 conv => rhs; rw [<- Rat.num_divInt_den a]
 rw [Rat.divInt_mul_divInt]
theorem Jlw (a b : Rat) (B : Nat) (V1 V2 : Value) (w : World) (h1 : IsQ w B V1 a) (h2 : IsQ w B V2 b) (p9 : B <= w.heap.size) (ha : QS 68719476736 a) (hb : QS 68719476736 b) (aR : b ≠ 0) :
  Calls Tryz.prog 128 #[V1, V2] w (Jak (a / b) w) := by
 have aS : b.num ≠ 0 := fun e => aR (Rat.num_eq_zero.1 e)
 obtain ⟨n0, A0, l0, c0c, A0', l0', c0c', rfl⟩ := h1.shape
 obtain ⟨n9, A9, l9, c9c, A9', l9', c9c', rfl⟩ := h2.shape
 have H1 := lh h1
 have H2 := lh h2
 obtain ⟨s1, s2⟩ := ha.blens (by omega)
 obtain ⟨s3, s4⟩ := hb.blens (by omega)
 have aD : ∀ w' V V', IsI w' w'.heap.size V (a.num * (b.den : Int)) -> IsI w' w'.heap.size V' ((a.den : Int) * b.num) -> Calls Tryz.prog 63 #[V, V'] w' (Jak (a / b) w') := fun w' V V' g1 g2 => by
  have := Jbr _ _ _ V V' w' g1 g2 zd (Yo (nt (Zp ha.1 (by rw [Int.natAbs_natCast]; exact hb.2)) (by omega)) (by omega))
   (Yo (nt (Zp (by rw [Int.natAbs_natCast]; exact ha.2) hb.1) (by omega)) (by omega)) (Int.mul_ne_zero (by have := a.den_nz; omega) aS)
  rw [Jl7] at this
  exact this
 have HMK := lh aD
 clear aD h1 h2 ha hb aS aR
 obtain ⟨b0, b1, b2, hB, hZ⟩ := bx3 w 56 #[.bool n0, .slice A0 l0 c0c, .slice A0' l0' c0c'] 56 #[.bool n9, .slice A9 l9 c9c, .slice A9' l9' c9c'] 56 #[.bool false, .slice none 0 0, .slice none 0 0]
 have ne1 := neA w.heap.size
 have ne2 := neC w.heap.size
 have ne3 := neB w.heap.size
 have ne4 := neD w.heap.size
 go_enter Tryz.func128, Tryz.ntmps128
 go_upto_region 1 with fail
 generalize (((w.alloc (.cells #[.bool n0, .slice A0 l0 c0c, .slice A0' l0' c0c'] 56)).alloc (.cells #[.bool n9, .slice A9 l9 c9c, .slice A9' l9' c9c'] 56)).alloc (.cells #[.bool false, .slice none 0 0, .slice none 0 0] 56)) = W at *
 have o8 : B <= W.heap.size := nt p9 hB.size
 have G1 : Hid (∀ w', Below W.heap.size W w' -> IsQ w' w'.heap.size (.agg #[.bool n0, .slice A0 l0 c0c, .slice A0' l0' c0c']) a) := lh fun w' hb => ((H1.out.next p9 hB).next o8 hb).more (nt o8 hb.size)
 have G2 : Hid (∀ w', Below W.heap.size W w' -> IsQ w' w'.heap.size (.agg #[.bool n9, .slice A9 l9 c9c, .slice A9' l9' c9c']) b) := lh fun w' hb => ((H2.out.next p9 hB).next o8 hb).more (nt o8 hb.size)
 clear H1 H2
 obtain ⟨q8, s9, t7⟩ := b0.c3; obtain ⟨x8, x9, y8⟩ := b1.c3
 obtain ⟨q8, s9, t7⟩ := b0.c3; have c0 := b0.drew; have j9 := c0.lt; obtain ⟨x8, x9, y8⟩ := b1.c3; have c1 := b1.drew; have o0 := c1.lt; have c2 := b2.drew; have o7 := c2.lt; have hc := Ji W; go_region_held3 (fun w' => w'.cell? ⟨w.heap.size, 0, none⟩ = some (.bool n0) /\ w'.cell? ⟨w.heap.size, 1, none⟩ = some (.slice A0 l0 c0c) /\ w'.cell? ⟨w.heap.size, 2, none⟩ = some (.slice A0' l0' c0c') /\ w'.cell? ⟨w.heap.size + 1, 0, none⟩ = some (.bool n9) /\ w'.cell? ⟨w.heap.size + 1, 1, none⟩ = some (.slice A9 l9 c9c) /\ w'.cell? ⟨w.heap.size + 1, 2, none⟩ = some (.slice A9' l9' c9c')) (go_keep) (first | (go_at_call 130; (with_reducible refine (Jau b _ _ _ (G2.out _ hc) zd).mono ?_); rintro e w1 ⟨v1, rfl, o6, o9⟩; obtain ⟨g1, A1, l1, c1c, aE⟩ := o6.shape; subst aE; (try clear e8 e9 j0); obtain ⟨c0, e8, e9, j0⟩ := c0.zc3 o9; (try clear j9); have j9 := c0.lt; (try clear j6 j7 j8); obtain ⟨c1, j6, j7, j8⟩ := c1.zc3 o9; (try clear o0); have o0 := c1.lt; have c2 := c2.below o9 c2.lt; (try clear o7); have o7 := c2.lt; have hc := Ja hc o9) | (go_at_call 69; (with_reducible refine (Ya _ _ _ _ _ _ (G1.out _ hc).num o6 zd s1 s4).mono ?_); rintro e w2 ⟨v2, rfl, t8, p7⟩; obtain ⟨g2, A2, l2, c2c, aJ⟩ := t8.shape; subst aJ; (try clear e8 e9 j0); obtain ⟨c0, e8, e9, j0⟩ := c0.zc3 p7; (try clear j9); have j9 := c0.lt; (try clear j6 j7 j8); obtain ⟨c1, j6, j7, j8⟩ := c1.zc3 p7; (try clear o0); have o0 := c1.lt; have c2 := c2.below p7 c2.lt; (try clear o7); have o7 := c2.lt; have o6 := (o6.next zd p7).more p7.size; have hc := Ja hc p7) | (go_at_call 130; (with_reducible refine (Jau a _ _ _ (G1.out _ hc) zd).mono ?_); rintro e w3 ⟨v3, rfl, aC, x7⟩; obtain ⟨g3, A3, l3, c3c, aX⟩ := aC.shape; subst aX; (try clear e8 e9 j0); obtain ⟨c0, e8, e9, j0⟩ := c0.zc3 x7; (try clear j9); have j9 := c0.lt; (try clear j6 j7 j8); obtain ⟨c1, j6, j7, j8⟩ := c1.zc3 x7; (try clear o0); have o0 := c1.lt; have c2 := c2.below x7 c2.lt; (try clear o7); have o7 := c2.lt; have o6 := (o6.next zd x7).more x7.size; have t8 := (t8.next zd x7).more x7.size; have hc := Ja hc x7) | (go_at_call 69; (with_reducible refine (Ya _ _ _ _ _ _ aC (G2.out _ hc).num zd s2 s3).mono ?_); rintro e w4 ⟨v4, rfl, aF, u4⟩; obtain ⟨g4, A4, l4, c4c, aY⟩ := aF.shape; subst aY; (try clear e8 e9 j0); obtain ⟨c0, e8, e9, j0⟩ := c0.zc3 u4; (try clear j9); have j9 := c0.lt; (try clear j6 j7 j8); obtain ⟨c1, j6, j7, j8⟩ := c1.zc3 u4; (try clear o0); have o0 := c1.lt; have c2 := c2.below u4 c2.lt; (try clear o7); have o7 := c2.lt; have o6 := (o6.next zd u4).more u4.size; have t8 := (t8.next zd u4).more u4.size; have aC := (aC.next zd u4).more u4.size; have hc := Ja hc u4) | (go_at_call 63; (with_reducible refine (HMK.out _ _ _ t8 aF).mono ?_); rintro e w5 ⟨v5, rfl, aT, p8⟩; obtain ⟨g5, A5, l5, c5c, A5', l5', c5c', aZ⟩ := aT.shape; subst aZ; (try clear e8 e9 j0); obtain ⟨c0, e8, e9, j0⟩ := c0.zc3 p8; (try clear j9); have j9 := c0.lt; (try clear j6 j7 j8); obtain ⟨c1, j6, j7, j8⟩ := c1.zc3 p8; (try clear o0); have o0 := c1.lt; have c2 := c2.below p8 c2.lt; (try clear o7); have o7 := c2.lt; have o6 := (o6.next zd p8).more p8.size; have t8 := (t8.next zd p8).more p8.size; have aC := (aC.next zd p8).more p8.size; have aF := (aF.next zd p8).more p8.size; have hc := Ja hc p8; obtain ⟨aK, aL, aM, aN, aO, aP, y9, aA, aB⟩ := c2.f3))
 all_goals
  go_wp2
  refine bodyPost_ret (v := .agg #[.bool g5, .slice A5 l5 c5c, .slice A5' l5' c5c']) (by simp [results, Tryz.results128, go_sem, y9, aA, aB]) rfl ?_
  exact Zg hB hc aT c2 (by omega)
