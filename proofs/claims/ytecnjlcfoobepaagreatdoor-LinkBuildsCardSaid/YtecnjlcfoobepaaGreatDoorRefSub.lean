import Derived.Test.YtecnjlcfoobepaaGreatDoorRefQ
namespace Go.Proofs.YtecnjlcfoobepaaGreatDoor
set_option maxRecDepth 100000
set_option maxHeartbeats 1000000
open Go.RowKit
set_option linter.unusedSimpArgs false
set_option linter.unusedVariables false
theorem ref_neg (q : Rat) (B : Nat) (V : Value) (w : World) (h : IsQ w B V q) (hBB : B <= w.heap.size) : Calls Tryz.prog 128 #[V] w (RetQ (-q) w) := by
 obtain ⟨n0, A0, l0, c0c, A9, l9, c9c, rfl⟩ := h.shape
 have H := lh h
 have H9 := lh h.parts.2.2
 have E1 := lh (Rat.neg_num q)
 have E2 := lh (Rat.neg_den q)
 clear h
 have b0 := (Blk.new w  70 #[.bool n0, .slice A0 l0 c0c, .slice A9 l9 c9c]).alloc (.cells #[.bool false, .slice none 0 0, .slice none 0 0] 70); have b1 := Blk.new2 w (.cells #[.bool n0, .slice A0 l0 c0c, .slice A9 l9 c9c] 70) 70 #[.bool false, .slice none 0 0, .slice none 0 0]; have hB := balloc2 w (.cells #[.bool n0, .slice A0 l0 c0c, .slice A9 l9 c9c] 70) (.cells #[.bool false, .slice none 0 0, .slice none 0 0] 70); have hZ := lh (show ((w.alloc (.cells #[.bool n0, .slice A0 l0 c0c, .slice A9 l9 c9c] 70)).alloc (.cells #[.bool false, .slice none 0 0, .slice none 0 0] 70)).heap.size = w.heap.size + 1 + 1 from by simp)
 have ne1 : ¬ w.heap.size = w.heap.size + 1 := by omega
 have ne2 : ¬ w.heap.size + 1 = w.heap.size := by omega
 go_enter Tryz.func128, Tryz.ntmps128
 go_upto_region 1 with fail
 generalize ((w.alloc (.cells #[.bool n0, .slice A0 l0 c0c, .slice A9 l9 c9c] 70)).alloc (.cells #[.bool false, .slice none 0 0, .slice none 0 0] 70)) = W at *
 have hBW : B <= W.heap.size := nt hBB hB.size
 have hmk : ∀ w', Below W.heap.size W w' -> Calls Tryz.prog 158 #[.agg #[.bool n0, .slice A0 l0 c0c]] w' (RetI (-q.num) w') := fun w' hb => ref_intNeg q.num B _ w' ((H.out.next hBB hB).next hBW hb).num (nt hBW hb.size)
 have HMK := lh hmk
 have G9 : Hid (∀ w', Below W.heap.size W w' -> IsN w' w'.heap.size (.slice A9 l9 c9c) q.den) := lh fun w' hb => ((H9.out.next hBB hB).next hBW hb).more (nt hBW hb.size)
 clear hmk H H9
 obtain ⟨b0q0, b0q1, b0q2⟩ := b0.c3
 obtain ⟨b0q0, b0q1, b0q2⟩ := b0.c3; have c0 := b0.drew; have c0l := c0.lt; have c1 := b1.drew; have c1l := c1.lt; have hc := bdrew0 W; go_region_held3 (fun w' => w'.cell? ⟨w.heap.size, 0, none⟩ = some (.bool n0) /\ w'.cell? ⟨w.heap.size, 1, none⟩ = some (.slice A0 l0 c0c) /\ w'.cell? ⟨w.heap.size, 2, none⟩ = some (.slice A9 l9 c9c)) (go_keep) (first | (go_at_call 158; (with_reducible refine (HMK.out _ hc).mono ?_); rintro e w1 ⟨v1, rfl, hR1, hw1⟩; obtain ⟨g1, A1, l1, c1c, hv1⟩ := hR1.shape; subst hv1; have c0 := c0.below hw1 c0.lt; (try clear c0q0 c0q1 c0q2); obtain ⟨c0q0, c0q1, c0q2⟩ := c0.c3; (try clear c0l); have c0l := c0.lt; have c1 := c1.below hw1 c1.lt; (try clear c1l); have c1l := c1.lt; have hc := bthen hc hw1; obtain ⟨c1q0, c1q1, c1q2, c1f0, c1f1, c1f2, c1s0, c1s1, c1s2⟩ := c1.f3))
 all_goals
  go_wp2
  refine bodyPost_ret (v := .agg #[.bool g1, .slice A1 l1 c1c, .slice A9 l9 c9c]) (by simp [results, Tryz.results128, go_sem, c1s0, c1s1, c1s2]) rfl ?_
  refine retQ_done hB hc (IsQ.mk (q := -q) ?_ ?_) c1 (by omega)
  ·rw [E1.out]; exact hR1
  rw [E2.out]; exact G9.out _ hc
theorem ref_sub (a b : Rat) (B : Nat) (V1 V2 : Value) (w : World) (h1 : IsQ w B V1 a) (h2 : IsQ w B V2 b) (hBB : B <= w.heap.size) (ha : QS 68719476736 a) (hb : QS 68719476736 b) :
  Calls Tryz.prog 94 #[V1, V2] w (RetQ (a - b) w) := by
 rw [Rat.sub_eq_add_neg]
 obtain ⟨n0, A0, l0, c0c, A0', l0', c0c', rfl⟩ := h1.shape
 obtain ⟨n9, A9, l9, c9c, A9', l9', c9c', rfl⟩ := h2.shape
 have H1 := lh h1
 have H2 := lh h2
 have hbn := hb.neg
 clear h1 h2
 have b0 := ((Blk.new w  70 #[.bool n0, .slice A0 l0 c0c, .slice A0' l0' c0c']).alloc (.cells #[.bool n9, .slice A9 l9 c9c, .slice A9' l9' c9c'] 70)).alloc (.cells #[.bool false, .slice none 0 0, .slice none 0 0] 70); have b1 := (Blk.new2 w (.cells #[.bool n0, .slice A0 l0 c0c, .slice A0' l0' c0c'] 70) 70 #[.bool n9, .slice A9 l9 c9c, .slice A9' l9' c9c']).alloc (.cells #[.bool false, .slice none 0 0, .slice none 0 0] 70); have b2 := Blk.new3 w (.cells #[.bool n0, .slice A0 l0 c0c, .slice A0' l0' c0c'] 70) (.cells #[.bool n9, .slice A9 l9 c9c, .slice A9' l9' c9c'] 70) 70 #[.bool false, .slice none 0 0, .slice none 0 0]; have hB := balloc3 w (.cells #[.bool n0, .slice A0 l0 c0c, .slice A0' l0' c0c'] 70) (.cells #[.bool n9, .slice A9 l9 c9c, .slice A9' l9' c9c'] 70) (.cells #[.bool false, .slice none 0 0, .slice none 0 0] 70); have hZ := lh (show (((w.alloc (.cells #[.bool n0, .slice A0 l0 c0c, .slice A0' l0' c0c'] 70)).alloc (.cells #[.bool n9, .slice A9 l9 c9c, .slice A9' l9' c9c'] 70)).alloc (.cells #[.bool false, .slice none 0 0, .slice none 0 0] 70)).heap.size = w.heap.size + 1 + 1 + 1 from by simp)
 have ne1 : ¬ w.heap.size = w.heap.size + 1 + 1 := by omega
 have ne2 : ¬ w.heap.size + 1 = w.heap.size + 1 + 1 := by omega
 have ne3 : ¬ w.heap.size + 1 + 1 = w.heap.size := by omega
 have ne4 : ¬ w.heap.size + 1 + 1 = w.heap.size + 1 := by omega
 go_enter Tryz.func94, Tryz.ntmps94
 go_upto_region 1 with fail
 generalize (((w.alloc (.cells #[.bool n0, .slice A0 l0 c0c, .slice A0' l0' c0c'] 70)).alloc (.cells #[.bool n9, .slice A9 l9 c9c, .slice A9' l9' c9c'] 70)).alloc (.cells #[.bool false, .slice none 0 0, .slice none 0 0] 70)) = W at *
 have hBW : B <= W.heap.size := nt hBB hB.size
 have G1 : Hid (∀ w', Below W.heap.size W w' -> IsQ w' w'.heap.size (.agg #[.bool n0, .slice A0 l0 c0c, .slice A0' l0' c0c']) a) := lh fun w' hb => ((H1.out.next hBB hB).next hBW hb).more (nt hBW hb.size)
 have G2 : Hid (∀ w', Below W.heap.size W w' -> IsQ w' w'.heap.size (.agg #[.bool n9, .slice A9 l9 c9c, .slice A9' l9' c9c']) b) := lh fun w' hb => ((H2.out.next hBB hB).next hBW hb).more (nt hBW hb.size)
 have HA := lh ha
 have HB := lh hbn
 clear H1 H2 ha hb hbn
 obtain ⟨b0q0, b0q1, b0q2⟩ := b0.c3; obtain ⟨b1q0, b1q1, b1q2⟩ := b1.c3
 obtain ⟨b0q0, b0q1, b0q2⟩ := b0.c3; have c0 := b0.drew; have c0l := c0.lt; obtain ⟨b1q0, b1q1, b1q2⟩ := b1.c3; have c1 := b1.drew; have c1l := c1.lt; have c2 := b2.drew; have c2l := c2.lt; have hc := bdrew0 W; go_region_held3 (fun w' => w'.cell? ⟨w.heap.size, 0, none⟩ = some (.bool n0) /\ w'.cell? ⟨w.heap.size, 1, none⟩ = some (.slice A0 l0 c0c) /\ w'.cell? ⟨w.heap.size, 2, none⟩ = some (.slice A0' l0' c0c') /\ w'.cell? ⟨w.heap.size + 1, 0, none⟩ = some (.bool n9) /\ w'.cell? ⟨w.heap.size + 1, 1, none⟩ = some (.slice A9 l9 c9c) /\ w'.cell? ⟨w.heap.size + 1, 2, none⟩ = some (.slice A9' l9' c9c')) (go_keep) (first | (go_at_call 128; (with_reducible refine (ref_neg b _ _ _ (G2.out _ hc) zd).mono ?_); rintro e w1 ⟨v1, rfl, hR1, hw1⟩; obtain ⟨g1, A1, l1, c1c, A1', l1', c1c', hv1⟩ := hR1.shape; subst hv1; have c0 := c0.below hw1 c0.lt; (try clear c0q0 c0q1 c0q2); obtain ⟨c0q0, c0q1, c0q2⟩ := c0.c3; (try clear c0l); have c0l := c0.lt; have c1 := c1.below hw1 c1.lt; (try clear c1q0 c1q1 c1q2); obtain ⟨c1q0, c1q1, c1q2⟩ := c1.c3; (try clear c1l); have c1l := c1.lt; have c2 := c2.below hw1 c2.lt; (try clear c2l); have c2l := c2.lt; have hc := bthen hc hw1) | (go_at_call 95; (with_reducible refine (ref_add a (-b) _ _ _ _ (G1.out _ hc) hR1 zd HA.out HB.out).mono ?_); rintro e w2 ⟨v2, rfl, hR2, hw2⟩; obtain ⟨g2, A2, l2, c2c, A2', l2', c2c', hv2⟩ := hR2.shape; subst hv2; have c0 := c0.below hw2 c0.lt; (try clear c0q0 c0q1 c0q2); obtain ⟨c0q0, c0q1, c0q2⟩ := c0.c3; (try clear c0l); have c0l := c0.lt; have c1 := c1.below hw2 c1.lt; (try clear c1q0 c1q1 c1q2); obtain ⟨c1q0, c1q1, c1q2⟩ := c1.c3; (try clear c1l); have c1l := c1.lt; have c2 := c2.below hw2 c2.lt; (try clear c2l); have c2l := c2.lt; have hR1 := (hR1.next zd hw2).more hw2.size; have hc := bthen hc hw2; obtain ⟨c2q0, c2q1, c2q2, c2f0, c2f1, c2f2, c2s0, c2s1, c2s2⟩ := c2.f3))
 all_goals
  go_wp2
  refine bodyPost_ret (v := .agg #[.bool g2, .slice A2 l2 c2c, .slice A2' l2' c2c']) (by simp [results, Tryz.results94, go_sem, c2s0, c2s1, c2s2]) rfl ?_
  exact retQ_done hB hc hR2 c2 (by omega)
theorem make_div (a b : Rat) : Rat.divInt (a.num * (b.den : Int)) ((a.den : Int) * b.num) = a / b := by
 rw [Rat.div_def, Rat.inv_def]
 conv => rhs; rw [<- Rat.num_divInt_den a]
 rw [Rat.divInt_mul_divInt]
theorem ref_divQ (a b : Rat) (B : Nat) (V1 V2 : Value) (w : World) (h1 : IsQ w B V1 a) (h2 : IsQ w B V2 b) (hBB : B <= w.heap.size) (ha : QS 68719476736 a) (hb : QS 68719476736 b) (hb0 : b ≠ 0) :
  Calls Tryz.prog 131 #[V1, V2] w (RetQ (a / b) w) := by
 have hn0 : b.num ≠ 0 := fun e => hb0 (Rat.num_eq_zero.1 e)
 obtain ⟨n0, A0, l0, c0c, A0', l0', c0c', rfl⟩ := h1.shape
 obtain ⟨n9, A9, l9, c9c, A9', l9', c9c', rfl⟩ := h2.shape
 have H1 := lh h1
 have H2 := lh h2
 obtain ⟨s1, s2⟩ := ha.blens (by omega)
 obtain ⟨s3, s4⟩ := hb.blens (by omega)
 have hmk : ∀ w' V V', IsI w' w'.heap.size V (a.num * (b.den : Int)) -> IsI w' w'.heap.size V' ((a.den : Int) * b.num) -> Calls Tryz.prog 76 #[V, V'] w' (RetQ (a / b) w') := fun w' V V' g1 g2 => by
  have := ref_make _ _ _ V V' w' g1 g2 zd (limbsZ (nt (blen_zmul ha.1 (by rw [Int.natAbs_natCast]; exact hb.2)) (by omega)) (by omega))
   (limbsZ (nt (blen_zmul (by rw [Int.natAbs_natCast]; exact ha.2) hb.1) (by omega)) (by omega)) (Int.mul_ne_zero (by have := a.den_nz; omega) hn0)
  rw [make_div] at this
  exact this
 have HMK := lh hmk
 clear hmk h1 h2 ha hb hn0 hb0
 have b0 := ((Blk.new w  70 #[.bool n0, .slice A0 l0 c0c, .slice A0' l0' c0c']).alloc (.cells #[.bool n9, .slice A9 l9 c9c, .slice A9' l9' c9c'] 70)).alloc (.cells #[.bool false, .slice none 0 0, .slice none 0 0] 70); have b1 := (Blk.new2 w (.cells #[.bool n0, .slice A0 l0 c0c, .slice A0' l0' c0c'] 70) 70 #[.bool n9, .slice A9 l9 c9c, .slice A9' l9' c9c']).alloc (.cells #[.bool false, .slice none 0 0, .slice none 0 0] 70); have b2 := Blk.new3 w (.cells #[.bool n0, .slice A0 l0 c0c, .slice A0' l0' c0c'] 70) (.cells #[.bool n9, .slice A9 l9 c9c, .slice A9' l9' c9c'] 70) 70 #[.bool false, .slice none 0 0, .slice none 0 0]; have hB := balloc3 w (.cells #[.bool n0, .slice A0 l0 c0c, .slice A0' l0' c0c'] 70) (.cells #[.bool n9, .slice A9 l9 c9c, .slice A9' l9' c9c'] 70) (.cells #[.bool false, .slice none 0 0, .slice none 0 0] 70); have hZ := lh (show (((w.alloc (.cells #[.bool n0, .slice A0 l0 c0c, .slice A0' l0' c0c'] 70)).alloc (.cells #[.bool n9, .slice A9 l9 c9c, .slice A9' l9' c9c'] 70)).alloc (.cells #[.bool false, .slice none 0 0, .slice none 0 0] 70)).heap.size = w.heap.size + 1 + 1 + 1 from by simp)
 have ne1 : ¬ w.heap.size = w.heap.size + 1 + 1 := by omega
 have ne2 : ¬ w.heap.size + 1 = w.heap.size + 1 + 1 := by omega
 have ne3 : ¬ w.heap.size + 1 + 1 = w.heap.size := by omega
 have ne4 : ¬ w.heap.size + 1 + 1 = w.heap.size + 1 := by omega
 go_enter Tryz.func131, Tryz.ntmps131
 go_upto_region 1 with fail
 generalize (((w.alloc (.cells #[.bool n0, .slice A0 l0 c0c, .slice A0' l0' c0c'] 70)).alloc (.cells #[.bool n9, .slice A9 l9 c9c, .slice A9' l9' c9c'] 70)).alloc (.cells #[.bool false, .slice none 0 0, .slice none 0 0] 70)) = W at *
 have hBW : B <= W.heap.size := nt hBB hB.size
 have G1 : Hid (∀ w', Below W.heap.size W w' -> IsQ w' w'.heap.size (.agg #[.bool n0, .slice A0 l0 c0c, .slice A0' l0' c0c']) a) := lh fun w' hb => ((H1.out.next hBB hB).next hBW hb).more (nt hBW hb.size)
 have G2 : Hid (∀ w', Below W.heap.size W w' -> IsQ w' w'.heap.size (.agg #[.bool n9, .slice A9 l9 c9c, .slice A9' l9' c9c']) b) := lh fun w' hb => ((H2.out.next hBB hB).next hBW hb).more (nt hBW hb.size)
 clear H1 H2
 obtain ⟨b0q0, b0q1, b0q2⟩ := b0.c3; obtain ⟨b1q0, b1q1, b1q2⟩ := b1.c3
 obtain ⟨b0q0, b0q1, b0q2⟩ := b0.c3; have c0 := b0.drew; have c0l := c0.lt; obtain ⟨b1q0, b1q1, b1q2⟩ := b1.c3; have c1 := b1.drew; have c1l := c1.lt; have c2 := b2.drew; have c2l := c2.lt; have hc := bdrew0 W; go_region_held3 (fun w' => w'.cell? ⟨w.heap.size, 0, none⟩ = some (.bool n0) /\ w'.cell? ⟨w.heap.size, 1, none⟩ = some (.slice A0 l0 c0c) /\ w'.cell? ⟨w.heap.size, 2, none⟩ = some (.slice A0' l0' c0c') /\ w'.cell? ⟨w.heap.size + 1, 0, none⟩ = some (.bool n9) /\ w'.cell? ⟨w.heap.size + 1, 1, none⟩ = some (.slice A9 l9 c9c) /\ w'.cell? ⟨w.heap.size + 1, 2, none⟩ = some (.slice A9' l9' c9c')) (go_keep) (first | (go_at_call 93; (with_reducible refine (ref_den b _ _ _ (G2.out _ hc) zd).mono ?_); rintro e w1 ⟨v1, rfl, hR1, hw1⟩; obtain ⟨g1, A1, l1, c1c, hv1⟩ := hR1.shape; subst hv1; have c0 := c0.below hw1 c0.lt; (try clear c0q0 c0q1 c0q2); obtain ⟨c0q0, c0q1, c0q2⟩ := c0.c3; (try clear c0l); have c0l := c0.lt; have c1 := c1.below hw1 c1.lt; (try clear c1q0 c1q1 c1q2); obtain ⟨c1q0, c1q1, c1q2⟩ := c1.c3; (try clear c1l); have c1l := c1.lt; have c2 := c2.below hw1 c2.lt; (try clear c2l); have c2l := c2.lt; have hc := bthen hc hw1) | (go_at_call 92; (with_reducible refine (ref_intMul _ _ _ _ _ _ (G1.out _ hc).num hR1 zd s1 s4).mono ?_); rintro e w2 ⟨v2, rfl, hR2, hw2⟩; obtain ⟨g2, A2, l2, c2c, hv2⟩ := hR2.shape; subst hv2; have c0 := c0.below hw2 c0.lt; (try clear c0q0 c0q1 c0q2); obtain ⟨c0q0, c0q1, c0q2⟩ := c0.c3; (try clear c0l); have c0l := c0.lt; have c1 := c1.below hw2 c1.lt; (try clear c1q0 c1q1 c1q2); obtain ⟨c1q0, c1q1, c1q2⟩ := c1.c3; (try clear c1l); have c1l := c1.lt; have c2 := c2.below hw2 c2.lt; (try clear c2l); have c2l := c2.lt; have hR1 := (hR1.next zd hw2).more hw2.size; have hc := bthen hc hw2) | (go_at_call 93; (with_reducible refine (ref_den a _ _ _ (G1.out _ hc) zd).mono ?_); rintro e w3 ⟨v3, rfl, hR3, hw3⟩; obtain ⟨g3, A3, l3, c3c, hv3⟩ := hR3.shape; subst hv3; have c0 := c0.below hw3 c0.lt; (try clear c0q0 c0q1 c0q2); obtain ⟨c0q0, c0q1, c0q2⟩ := c0.c3; (try clear c0l); have c0l := c0.lt; have c1 := c1.below hw3 c1.lt; (try clear c1q0 c1q1 c1q2); obtain ⟨c1q0, c1q1, c1q2⟩ := c1.c3; (try clear c1l); have c1l := c1.lt; have c2 := c2.below hw3 c2.lt; (try clear c2l); have c2l := c2.lt; have hR1 := (hR1.next zd hw3).more hw3.size; have hR2 := (hR2.next zd hw3).more hw3.size; have hc := bthen hc hw3) | (go_at_call 92; (with_reducible refine (ref_intMul _ _ _ _ _ _ hR3 (G2.out _ hc).num zd s2 s3).mono ?_); rintro e w4 ⟨v4, rfl, hR4, hw4⟩; obtain ⟨g4, A4, l4, c4c, hv4⟩ := hR4.shape; subst hv4; have c0 := c0.below hw4 c0.lt; (try clear c0q0 c0q1 c0q2); obtain ⟨c0q0, c0q1, c0q2⟩ := c0.c3; (try clear c0l); have c0l := c0.lt; have c1 := c1.below hw4 c1.lt; (try clear c1q0 c1q1 c1q2); obtain ⟨c1q0, c1q1, c1q2⟩ := c1.c3; (try clear c1l); have c1l := c1.lt; have c2 := c2.below hw4 c2.lt; (try clear c2l); have c2l := c2.lt; have hR1 := (hR1.next zd hw4).more hw4.size; have hR2 := (hR2.next zd hw4).more hw4.size; have hR3 := (hR3.next zd hw4).more hw4.size; have hc := bthen hc hw4) | (go_at_call 76; (with_reducible refine (HMK.out _ _ _ hR2 hR4).mono ?_); rintro e w5 ⟨v5, rfl, hR5, hw5⟩; obtain ⟨g5, A5, l5, c5c, A5', l5', c5c', hv5⟩ := hR5.shape; subst hv5; have c0 := c0.below hw5 c0.lt; (try clear c0q0 c0q1 c0q2); obtain ⟨c0q0, c0q1, c0q2⟩ := c0.c3; (try clear c0l); have c0l := c0.lt; have c1 := c1.below hw5 c1.lt; (try clear c1q0 c1q1 c1q2); obtain ⟨c1q0, c1q1, c1q2⟩ := c1.c3; (try clear c1l); have c1l := c1.lt; have c2 := c2.below hw5 c2.lt; (try clear c2l); have c2l := c2.lt; have hR1 := (hR1.next zd hw5).more hw5.size; have hR2 := (hR2.next zd hw5).more hw5.size; have hR3 := (hR3.next zd hw5).more hw5.size; have hR4 := (hR4.next zd hw5).more hw5.size; have hc := bthen hc hw5; obtain ⟨c2q0, c2q1, c2q2, c2f0, c2f1, c2f2, c2s0, c2s1, c2s2⟩ := c2.f3))
 all_goals
  go_wp2
  refine bodyPost_ret (v := .agg #[.bool g5, .slice A5 l5 c5c, .slice A5' l5' c5c']) (by simp [results, Tryz.results131, go_sem, c2s0, c2s1, c2s2]) rfl ?_
  exact retQ_done hB hc hR5 c2 (by omega)
end Go.Proofs.YtecnjlcfoobepaaGreatDoor
