import Derived.Test.YtacbcaebaomglaaGreatDoorRefQ
namespace Go.Proofs.YtacbcaebaomglaaGreatDoor
set_option maxRecDepth 100000
set_option maxHeartbeats 1000000
open Go.RowKit
set_option linter.all false
theorem Jnb (q : Rat) (B : Nat) (V : Value) (w : World) (h : IsQ w B V q) (p9 : B <= w.heap.size) : Calls Tryz.prog 167 #[V] w (Jak (-q) w) := by
 obtain ⟨n0, A0, l0, c0c, A9, l9, c9c, rfl⟩ := h.shape
 have H := lh h
 have H9 := lh h.parts.2.2
 have E1 := lh (Rat.neg_num q)
 have E2 := lh (Rat.neg_den q)
 clear h
 obtain ⟨b0, b1, hB, hZ⟩ := bx2 w 56 #[.bool n0, .slice A0 l0 c0c, .slice A9 l9 c9c] 56 #[.bool false, .slice none 0 0, .slice none 0 0]
 have ne1 := neE w.heap.size
 have ne2 := neF w.heap.size
 go_enter Tryz.func167, Tryz.ntmps167
 go_upto_region 1 with fail
 generalize ((w.alloc (.cells #[.bool n0, .slice A0 l0 c0c, .slice A9 l9 c9c] 56)).alloc (.cells #[.bool false, .slice none 0 0, .slice none 0 0] 56)) = W at *
 have o8 : B <= W.heap.size := nt p9 hB.size
 have aD : ∀ w', Below W.heap.size W w' -> Calls Tryz.prog 184 #[.agg #[.bool n0, .slice A0 l0 c0c]] w' (Jal (-q.num) w') := fun w' hb => Jdp q.num B _ w' ((H.out.next p9 hB).next o8 hb).num (nt o8 hb.size)
 have HMK := lh aD
 have G9 : Hid (∀ w', Below W.heap.size W w' -> IsN w' w'.heap.size (.slice A9 l9 c9c) q.den) := lh fun w' hb => ((H9.out.next p9 hB).next o8 hb).more (nt o8 hb.size)
 clear aD H H9
 obtain ⟨q8, s9, t7⟩ := b0.c3
 obtain ⟨q8, s9, t7⟩ := b0.c3; have c0 := b0.drew; have j9 := c0.lt; have c1 := b1.drew; have o0 := c1.lt; have hc := Ji W; go_region_held3 (fun w' => w'.cell? ⟨w.heap.size, 0, none⟩ = some (.bool n0) /\ w'.cell? ⟨w.heap.size, 1, none⟩ = some (.slice A0 l0 c0c) /\ w'.cell? ⟨w.heap.size, 2, none⟩ = some (.slice A9 l9 c9c)) (go_keep) (first | (go_at_call 184; (with_reducible refine (HMK.out _ hc).mono ?_); rintro e w1 ⟨v1, rfl, o6, o9⟩; obtain ⟨g1, A1, l1, c1c, aE⟩ := o6.shape; subst aE; (try clear e8 e9 j0); obtain ⟨c0, e8, e9, j0⟩ := c0.zc3 o9; (try clear j9); have j9 := c0.lt; have c1 := c1.below o9 c1.lt; (try clear o0); have o0 := c1.lt; have hc := Ja hc o9; obtain ⟨j6, j7, j8, aU, aV, aW, aG, aH, aI⟩ := c1.f3))
 all_goals
  go_wp2
  refine bodyPost_ret (v := .agg #[.bool g1, .slice A1 l1 c1c, .slice A9 l9 c9c]) (by simp [results, Tryz.results167, go_sem, aG, aH, aI]) rfl ?_
  refine Zg hB hc (IsQ.mk (q := -q) ?_ ?_) c1 (by omega)
  ·rw [E1.out]; exact o6
  rw [E2.out]; exact G9.out _ hc
theorem Jm9 (a b : Rat) (B : Nat) (V1 V2 : Value) (w : World) (h1 : IsQ w B V1 a) (h2 : IsQ w B V2 b) (p9 : B <= w.heap.size) (ha : QS 68719476736 a) (hb : QS 68719476736 b) :
  Calls Tryz.prog 131 #[V1, V2] w (Jak (a - b) w) := by
 rw [Rat.sub_eq_add_neg]
 obtain ⟨n0, A0, l0, c0c, A0', l0', c0c', rfl⟩ := h1.shape
 obtain ⟨n9, A9, l9, c9c, A9', l9', c9c', rfl⟩ := h2.shape
 have H1 := lh h1
 have H2 := lh h2
 have aQ := hb.neg
 clear h1 h2
 obtain ⟨b0, b1, b2, hB, hZ⟩ := bx3 w 56 #[.bool n0, .slice A0 l0 c0c, .slice A0' l0' c0c'] 56 #[.bool n9, .slice A9 l9 c9c, .slice A9' l9' c9c'] 56 #[.bool false, .slice none 0 0, .slice none 0 0]
 have ne1 := neA w.heap.size
 have ne2 := neC w.heap.size
 have ne3 := neB w.heap.size
 have ne4 := neD w.heap.size
 go_enter Tryz.func131, Tryz.ntmps131
 go_upto_region 1 with fail
 generalize (((w.alloc (.cells #[.bool n0, .slice A0 l0 c0c, .slice A0' l0' c0c'] 56)).alloc (.cells #[.bool n9, .slice A9 l9 c9c, .slice A9' l9' c9c'] 56)).alloc (.cells #[.bool false, .slice none 0 0, .slice none 0 0] 56)) = W at *
 have o8 : B <= W.heap.size := nt p9 hB.size
 have G1 : Hid (∀ w', Below W.heap.size W w' -> IsQ w' w'.heap.size (.agg #[.bool n0, .slice A0 l0 c0c, .slice A0' l0' c0c']) a) := lh fun w' hb => ((H1.out.next p9 hB).next o8 hb).more (nt o8 hb.size)
 have G2 : Hid (∀ w', Below W.heap.size W w' -> IsQ w' w'.heap.size (.agg #[.bool n9, .slice A9 l9 c9c, .slice A9' l9' c9c']) b) := lh fun w' hb => ((H2.out.next p9 hB).next o8 hb).more (nt o8 hb.size)
 have HA := lh ha
 have HB := lh aQ
 clear H1 H2 ha hb aQ
 obtain ⟨q8, s9, t7⟩ := b0.c3; obtain ⟨x8, x9, y8⟩ := b1.c3
 obtain ⟨q8, s9, t7⟩ := b0.c3; have c0 := b0.drew; have j9 := c0.lt; obtain ⟨x8, x9, y8⟩ := b1.c3; have c1 := b1.drew; have o0 := c1.lt; have c2 := b2.drew; have o7 := c2.lt; have hc := Ji W; go_region_held3 (fun w' => w'.cell? ⟨w.heap.size, 0, none⟩ = some (.bool n0) /\ w'.cell? ⟨w.heap.size, 1, none⟩ = some (.slice A0 l0 c0c) /\ w'.cell? ⟨w.heap.size, 2, none⟩ = some (.slice A0' l0' c0c') /\ w'.cell? ⟨w.heap.size + 1, 0, none⟩ = some (.bool n9) /\ w'.cell? ⟨w.heap.size + 1, 1, none⟩ = some (.slice A9 l9 c9c) /\ w'.cell? ⟨w.heap.size + 1, 2, none⟩ = some (.slice A9' l9' c9c')) (go_keep) (first | (go_at_call 167; (with_reducible refine (Jnb b _ _ _ (G2.out _ hc) zd).mono ?_); rintro e w1 ⟨v1, rfl, o6, o9⟩; obtain ⟨g1, A1, l1, c1c, A1', l1', c1c', aE⟩ := o6.shape; subst aE; (try clear e8 e9 j0); obtain ⟨c0, e8, e9, j0⟩ := c0.zc3 o9; (try clear j9); have j9 := c0.lt; (try clear j6 j7 j8); obtain ⟨c1, j6, j7, j8⟩ := c1.zc3 o9; (try clear o0); have o0 := c1.lt; have c2 := c2.below o9 c2.lt; (try clear o7); have o7 := c2.lt; have hc := Ja hc o9) | (go_at_call 94; (with_reducible refine (Jda a (-b) _ _ _ _ (G1.out _ hc) o6 zd HA.out HB.out).mono ?_); rintro e w2 ⟨v2, rfl, t8, p7⟩; obtain ⟨g2, A2, l2, c2c, A2', l2', c2c', aJ⟩ := t8.shape; subst aJ; (try clear e8 e9 j0); obtain ⟨c0, e8, e9, j0⟩ := c0.zc3 p7; (try clear j9); have j9 := c0.lt; (try clear j6 j7 j8); obtain ⟨c1, j6, j7, j8⟩ := c1.zc3 p7; (try clear o0); have o0 := c1.lt; have c2 := c2.below p7 c2.lt; (try clear o7); have o7 := c2.lt; have o6 := (o6.next zd p7).more p7.size; have hc := Ja hc p7; obtain ⟨aK, aL, aM, aN, aO, aP, y9, aA, aB⟩ := c2.f3))
 all_goals
  go_wp2
  refine bodyPost_ret (v := .agg #[.bool g2, .slice A2 l2 c2c, .slice A2' l2' c2c']) (by simp [results, Tryz.results131, go_sem, y9, aA, aB]) rfl ?_
  exact Zg hB hc t8 c2 (by omega)
