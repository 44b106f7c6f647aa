/-
  The document's Neg, Sub, Div of fractions.
  Rows of the document's fractions that are made and filled; its Turns.
  The document's Shares: the mean over all orders.
  The walk of abaculuslaw37.ShareTables.
-/
import Derived.Test.YtbjemjopcoajcaaGreatDoorRefQ
import Derived.Test.YtbjemjopcoajcaaGreatDoorShareMix
import Derived.Test.YtbjemjopcoajcaaGreatDoorRefOrders
import Derived.Test.YtbjemjopcoajcaaGreatDoorShareTwinsW
/-! The document's Neg, Sub, Div of fractions. -/
namespace Go.Proofs.YtbjemjopcoajcaaGreatDoor
open Go.RowKit
set_option linter.unusedSimpArgs false
set_option linter.unusedVariables false

set_option maxRecDepth 100000 in
set_option maxHeartbeats 400000 in
theorem ref_neg (q : Rat) (B : Nat) (V : Value) (w : World) (h : IsQ w B V q) (hBB : B ≤ w.heap.size) : Calls Tryz.prog 86 #[V] w (RetQ (-q) w) := by
  obtain ⟨n0, A0, l0, c0c, A9, l9, c9c, rfl⟩ := h.shape
  have H := Lib.hid h
  have H9 := Lib.hid h.parts.2.2
  have E1 := Lib.hid (Rat.neg_num q)
  have E2 := Lib.hid (Rat.neg_den q)
  clear h
  have b0 := (Blk.new w  44 #[.bool n0, .slice A0 l0 c0c, .slice A9 l9 c9c]).alloc (.cells #[.bool false, .slice none 0 0, .slice none 0 0] 44); have b1 := Blk.new2 w (.cells #[.bool n0, .slice A0 l0 c0c, .slice A9 l9 c9c] 44) 44 #[.bool false, .slice none 0 0, .slice none 0 0]; have hB := balloc2 w (.cells #[.bool n0, .slice A0 l0 c0c, .slice A9 l9 c9c] 44) (.cells #[.bool false, .slice none 0 0, .slice none 0 0] 44); have hZ := Lib.hid (show ((w.alloc (.cells #[.bool n0, .slice A0 l0 c0c, .slice A9 l9 c9c] 44)).alloc (.cells #[.bool false, .slice none 0 0, .slice none 0 0] 44)).heap.size = w.heap.size + 1 + 1 from by simp)
  have ne1 : ¬ w.heap.size = w.heap.size + 1 := by omega
  have ne2 : ¬ w.heap.size + 1 = w.heap.size := by omega
  go_enter Tryz.func86, Tryz.ntmps86
  go_upto_region 1 with fail
  generalize ((w.alloc (.cells #[.bool n0, .slice A0 l0 c0c, .slice A9 l9 c9c] 44)).alloc (.cells #[.bool false, .slice none 0 0, .slice none 0 0] 44)) = W at *
  have hBW : B ≤ W.heap.size := Nat.le_trans hBB hB.size
  have hmk : ∀ w', Below W.heap.size W w' → Calls Tryz.prog 111 #[.agg #[.bool n0, .slice A0 l0 c0c]] w' (RetI (-q.num) w') := fun w' hb => ref_intNeg q.num B _ w' ((H.out.next hBB hB).next hBW hb).num (Nat.le_trans hBW hb.size)
  have HMK := Lib.hid hmk
  have G9 : Hid (∀ w', Below W.heap.size W w' → IsN w' w'.heap.size (.slice A9 l9 c9c) q.den) := Lib.hid fun w' hb => ((H9.out.next hBB hB).next hBW hb).more (Nat.le_trans hBW hb.size)
  clear hmk H H9
  obtain ⟨b0q0, b0q1, b0q2⟩ := b0.c3
  obtain ⟨b0q0, b0q1, b0q2⟩ := b0.c3; have c0 := b0.drew; have c0l := c0.lt; have c1 := b1.drew; have c1l := c1.lt; have hc := bdrew0 W; go_region_held3 (fun w' => w'.cell? ⟨w.heap.size, 0, none⟩ = some (.bool n0) ∧ w'.cell? ⟨w.heap.size, 1, none⟩ = some (.slice A0 l0 c0c) ∧ w'.cell? ⟨w.heap.size, 2, none⟩ = some (.slice A9 l9 c9c)) (go_keep) (first | (go_at_call 111; (with_reducible refine (HMK.out _ hc).mono ?_); rintro e w1 ⟨v1, rfl, hR1, hw1⟩; obtain ⟨g1, A1, l1, c1c, hv1⟩ := hR1.shape; subst hv1; have c0 := c0.below hw1 c0.lt; (try clear c0q0 c0q1 c0q2); obtain ⟨c0q0, c0q1, c0q2⟩ := c0.c3; (try clear c0l); have c0l := c0.lt; have c1 := c1.below hw1 c1.lt; (try clear c1l); have c1l := c1.lt; have hc := bthen hc hw1; obtain ⟨c1q0, c1q1, c1q2, c1f0, c1f1, c1f2, c1s0, c1s1, c1s2⟩ := c1.f3))
  all_goals
    go_wp2
    refine bodyPost_ret (v := .agg #[.bool g1, .slice A1 l1 c1c, .slice A9 l9 c9c]) (by simp [results, Tryz.results86, go_sem, c1s0, c1s1, c1s2]) rfl ?_
    refine retQ_done hB hc (IsQ.mk (q := -q) ?_ ?_) c1 (by omega)
    · rw [E1.out]; exact hR1
    · rw [E2.out]; exact G9.out _ hc
set_option maxRecDepth 100000 in
set_option maxHeartbeats 1000000 in
theorem ref_sub (a b : Rat) (B : Nat) (V1 V2 : Value) (w : World) (h1 : IsQ w B V1 a) (h2 : IsQ w B V2 b) (hBB : B ≤ w.heap.size) (ha : QS 68719476736 a) (hb : QS 68719476736 b) :
    Calls Tryz.prog 51 #[V1, V2] w (RetQ (a - b) w) := by
  rw [Rat.sub_eq_add_neg]
  obtain ⟨n0, A0, l0, c0c, A0', l0', c0c', rfl⟩ := h1.shape
  obtain ⟨n9, A9, l9, c9c, A9', l9', c9c', rfl⟩ := h2.shape
  have H1 := Lib.hid h1
  have H2 := Lib.hid h2
  have hbn := hb.neg
  clear h1 h2
  have b0 := ((Blk.new w  44 #[.bool n0, .slice A0 l0 c0c, .slice A0' l0' c0c']).alloc (.cells #[.bool n9, .slice A9 l9 c9c, .slice A9' l9' c9c'] 44)).alloc (.cells #[.bool false, .slice none 0 0, .slice none 0 0] 44); have b1 := (Blk.new2 w (.cells #[.bool n0, .slice A0 l0 c0c, .slice A0' l0' c0c'] 44) 44 #[.bool n9, .slice A9 l9 c9c, .slice A9' l9' c9c']).alloc (.cells #[.bool false, .slice none 0 0, .slice none 0 0] 44); have b2 := Blk.new3 w (.cells #[.bool n0, .slice A0 l0 c0c, .slice A0' l0' c0c'] 44) (.cells #[.bool n9, .slice A9 l9 c9c, .slice A9' l9' c9c'] 44) 44 #[.bool false, .slice none 0 0, .slice none 0 0]; have hB := balloc3 w (.cells #[.bool n0, .slice A0 l0 c0c, .slice A0' l0' c0c'] 44) (.cells #[.bool n9, .slice A9 l9 c9c, .slice A9' l9' c9c'] 44) (.cells #[.bool false, .slice none 0 0, .slice none 0 0] 44); have hZ := Lib.hid (show (((w.alloc (.cells #[.bool n0, .slice A0 l0 c0c, .slice A0' l0' c0c'] 44)).alloc (.cells #[.bool n9, .slice A9 l9 c9c, .slice A9' l9' c9c'] 44)).alloc (.cells #[.bool false, .slice none 0 0, .slice none 0 0] 44)).heap.size = w.heap.size + 1 + 1 + 1 from by simp)
  have ne1 : ¬ w.heap.size = w.heap.size + 1 + 1 := by omega
  have ne2 : ¬ w.heap.size + 1 = w.heap.size + 1 + 1 := by omega
  have ne3 : ¬ w.heap.size + 1 + 1 = w.heap.size := by omega
  have ne4 : ¬ w.heap.size + 1 + 1 = w.heap.size + 1 := by omega
  go_enter Tryz.func51, Tryz.ntmps51
  go_upto_region 1 with fail
  generalize (((w.alloc (.cells #[.bool n0, .slice A0 l0 c0c, .slice A0' l0' c0c'] 44)).alloc (.cells #[.bool n9, .slice A9 l9 c9c, .slice A9' l9' c9c'] 44)).alloc (.cells #[.bool false, .slice none 0 0, .slice none 0 0] 44)) = W at *
  have hBW : B ≤ W.heap.size := Nat.le_trans hBB hB.size
  have G1 : Hid (∀ w', Below W.heap.size W w' → IsQ w' w'.heap.size (.agg #[.bool n0, .slice A0 l0 c0c, .slice A0' l0' c0c']) a) := Lib.hid fun w' hb => ((H1.out.next hBB hB).next hBW hb).more (Nat.le_trans hBW hb.size)
  have G2 : Hid (∀ w', Below W.heap.size W w' → IsQ w' w'.heap.size (.agg #[.bool n9, .slice A9 l9 c9c, .slice A9' l9' c9c']) b) := Lib.hid fun w' hb => ((H2.out.next hBB hB).next hBW hb).more (Nat.le_trans hBW hb.size)
  have HA := Lib.hid ha
  have HB := Lib.hid hbn
  clear H1 H2 ha hb hbn
  obtain ⟨b0q0, b0q1, b0q2⟩ := b0.c3; obtain ⟨b1q0, b1q1, b1q2⟩ := b1.c3
  obtain ⟨b0q0, b0q1, b0q2⟩ := b0.c3; have c0 := b0.drew; have c0l := c0.lt; obtain ⟨b1q0, b1q1, b1q2⟩ := b1.c3; have c1 := b1.drew; have c1l := c1.lt; have c2 := b2.drew; have c2l := c2.lt; have hc := bdrew0 W; go_region_held3 (fun w' => w'.cell? ⟨w.heap.size, 0, none⟩ = some (.bool n0) ∧ w'.cell? ⟨w.heap.size, 1, none⟩ = some (.slice A0 l0 c0c) ∧ w'.cell? ⟨w.heap.size, 2, none⟩ = some (.slice A0' l0' c0c') ∧ w'.cell? ⟨w.heap.size + 1, 0, none⟩ = some (.bool n9) ∧ w'.cell? ⟨w.heap.size + 1, 1, none⟩ = some (.slice A9 l9 c9c) ∧ w'.cell? ⟨w.heap.size + 1, 2, none⟩ = some (.slice A9' l9' c9c')) (go_keep) (first | (go_at_call 86; (with_reducible refine (ref_neg b _ _ _ (G2.out _ hc) (Nat.le_refl _)).mono ?_); rintro e w1 ⟨v1, rfl, hR1, hw1⟩; obtain ⟨g1, A1, l1, c1c, A1', l1', c1c', hv1⟩ := hR1.shape; subst hv1; have c0 := c0.below hw1 c0.lt; (try clear c0q0 c0q1 c0q2); obtain ⟨c0q0, c0q1, c0q2⟩ := c0.c3; (try clear c0l); have c0l := c0.lt; have c1 := c1.below hw1 c1.lt; (try clear c1q0 c1q1 c1q2); obtain ⟨c1q0, c1q1, c1q2⟩ := c1.c3; (try clear c1l); have c1l := c1.lt; have c2 := c2.below hw1 c2.lt; (try clear c2l); have c2l := c2.lt; have hc := bthen hc hw1) | (go_at_call 29; (with_reducible refine (ref_add a (-b) _ _ _ _ (G1.out _ hc) hR1 (Nat.le_refl _) HA.out HB.out).mono ?_); rintro e w2 ⟨v2, rfl, hR2, hw2⟩; obtain ⟨g2, A2, l2, c2c, A2', l2', c2c', hv2⟩ := hR2.shape; subst hv2; have c0 := c0.below hw2 c0.lt; (try clear c0q0 c0q1 c0q2); obtain ⟨c0q0, c0q1, c0q2⟩ := c0.c3; (try clear c0l); have c0l := c0.lt; have c1 := c1.below hw2 c1.lt; (try clear c1q0 c1q1 c1q2); obtain ⟨c1q0, c1q1, c1q2⟩ := c1.c3; (try clear c1l); have c1l := c1.lt; have c2 := c2.below hw2 c2.lt; (try clear c2l); have c2l := c2.lt; have hR1 := (hR1.next (Nat.le_refl _) hw2).more hw2.size; have hc := bthen hc hw2; obtain ⟨c2q0, c2q1, c2q2, c2f0, c2f1, c2f2, c2s0, c2s1, c2s2⟩ := c2.f3))
  all_goals
    go_wp2
    refine bodyPost_ret (v := .agg #[.bool g2, .slice A2 l2 c2c, .slice A2' l2' c2c']) (by simp [results, Tryz.results51, go_sem, c2s0, c2s1, c2s2]) rfl ?_
    exact retQ_done hB hc hR2 c2 (by omega)
theorem make_div (a b : Rat) : Rat.divInt (a.num * (b.den : Int)) ((a.den : Int) * b.num) = a / b := by
  rw [Rat.div_def, Rat.inv_def]
  conv => rhs; rw [← Rat.num_divInt_den a]
  rw [Rat.divInt_mul_divInt]
set_option maxRecDepth 100000 in
set_option maxHeartbeats 1000000 in
theorem ref_divQ (a b : Rat) (B : Nat) (V1 V2 : Value) (w : World) (h1 : IsQ w B V1 a) (h2 : IsQ w B V2 b) (hBB : B ≤ w.heap.size) (ha : QS 68719476736 a) (hb : QS 68719476736 b) (hb0 : b ≠ 0) :
    Calls Tryz.prog 48 #[V1, V2] w (RetQ (a / b) w) := by
  have hn0 : b.num ≠ 0 := fun e => hb0 (Rat.num_eq_zero.1 e)
  obtain ⟨n0, A0, l0, c0c, A0', l0', c0c', rfl⟩ := h1.shape
  obtain ⟨n9, A9, l9, c9c, A9', l9', c9c', rfl⟩ := h2.shape
  have H1 := Lib.hid h1
  have H2 := Lib.hid h2
  obtain ⟨s1, s2⟩ := ha.blens (by omega)
  obtain ⟨s3, s4⟩ := hb.blens (by omega)
  have hmk : ∀ w' V V', IsI w' w'.heap.size V (a.num * (b.den : Int)) → IsI w' w'.heap.size V' ((a.den : Int) * b.num) → Calls Tryz.prog 63 #[V, V'] w' (RetQ (a / b) w') := fun w' V V' g1 g2 => by
    have := ref_make _ _ _ V V' w' g1 g2 (Nat.le_refl _) (limbsZ (Nat.le_trans (blen_zmul ha.1 (by rw [Int.natAbs_natCast]; exact hb.2)) (by omega)) (by omega))
      (limbsZ (Nat.le_trans (blen_zmul (by rw [Int.natAbs_natCast]; exact ha.2) hb.1) (by omega)) (by omega)) (Int.mul_ne_zero (by have := a.den_nz; omega) hn0)
    rw [make_div] at this
    exact this
  have HMK := Lib.hid hmk
  clear hmk h1 h2 ha hb hn0 hb0
  have b0 := ((Blk.new w  44 #[.bool n0, .slice A0 l0 c0c, .slice A0' l0' c0c']).alloc (.cells #[.bool n9, .slice A9 l9 c9c, .slice A9' l9' c9c'] 44)).alloc (.cells #[.bool false, .slice none 0 0, .slice none 0 0] 44); have b1 := (Blk.new2 w (.cells #[.bool n0, .slice A0 l0 c0c, .slice A0' l0' c0c'] 44) 44 #[.bool n9, .slice A9 l9 c9c, .slice A9' l9' c9c']).alloc (.cells #[.bool false, .slice none 0 0, .slice none 0 0] 44); have b2 := Blk.new3 w (.cells #[.bool n0, .slice A0 l0 c0c, .slice A0' l0' c0c'] 44) (.cells #[.bool n9, .slice A9 l9 c9c, .slice A9' l9' c9c'] 44) 44 #[.bool false, .slice none 0 0, .slice none 0 0]; have hB := balloc3 w (.cells #[.bool n0, .slice A0 l0 c0c, .slice A0' l0' c0c'] 44) (.cells #[.bool n9, .slice A9 l9 c9c, .slice A9' l9' c9c'] 44) (.cells #[.bool false, .slice none 0 0, .slice none 0 0] 44); have hZ := Lib.hid (show (((w.alloc (.cells #[.bool n0, .slice A0 l0 c0c, .slice A0' l0' c0c'] 44)).alloc (.cells #[.bool n9, .slice A9 l9 c9c, .slice A9' l9' c9c'] 44)).alloc (.cells #[.bool false, .slice none 0 0, .slice none 0 0] 44)).heap.size = w.heap.size + 1 + 1 + 1 from by simp)
  have ne1 : ¬ w.heap.size = w.heap.size + 1 + 1 := by omega
  have ne2 : ¬ w.heap.size + 1 = w.heap.size + 1 + 1 := by omega
  have ne3 : ¬ w.heap.size + 1 + 1 = w.heap.size := by omega
  have ne4 : ¬ w.heap.size + 1 + 1 = w.heap.size + 1 := by omega
  go_enter Tryz.func48, Tryz.ntmps48
  go_upto_region 1 with fail
  generalize (((w.alloc (.cells #[.bool n0, .slice A0 l0 c0c, .slice A0' l0' c0c'] 44)).alloc (.cells #[.bool n9, .slice A9 l9 c9c, .slice A9' l9' c9c'] 44)).alloc (.cells #[.bool false, .slice none 0 0, .slice none 0 0] 44)) = W at *
  have hBW : B ≤ W.heap.size := Nat.le_trans hBB hB.size
  have G1 : Hid (∀ w', Below W.heap.size W w' → IsQ w' w'.heap.size (.agg #[.bool n0, .slice A0 l0 c0c, .slice A0' l0' c0c']) a) := Lib.hid fun w' hb => ((H1.out.next hBB hB).next hBW hb).more (Nat.le_trans hBW hb.size)
  have G2 : Hid (∀ w', Below W.heap.size W w' → IsQ w' w'.heap.size (.agg #[.bool n9, .slice A9 l9 c9c, .slice A9' l9' c9c']) b) := Lib.hid fun w' hb => ((H2.out.next hBB hB).next hBW hb).more (Nat.le_trans hBW hb.size)
  clear H1 H2
  obtain ⟨b0q0, b0q1, b0q2⟩ := b0.c3; obtain ⟨b1q0, b1q1, b1q2⟩ := b1.c3
  obtain ⟨b0q0, b0q1, b0q2⟩ := b0.c3; have c0 := b0.drew; have c0l := c0.lt; obtain ⟨b1q0, b1q1, b1q2⟩ := b1.c3; have c1 := b1.drew; have c1l := c1.lt; have c2 := b2.drew; have c2l := c2.lt; have hc := bdrew0 W; go_region_held3 (fun w' => w'.cell? ⟨w.heap.size, 0, none⟩ = some (.bool n0) ∧ w'.cell? ⟨w.heap.size, 1, none⟩ = some (.slice A0 l0 c0c) ∧ w'.cell? ⟨w.heap.size, 2, none⟩ = some (.slice A0' l0' c0c') ∧ w'.cell? ⟨w.heap.size + 1, 0, none⟩ = some (.bool n9) ∧ w'.cell? ⟨w.heap.size + 1, 1, none⟩ = some (.slice A9 l9 c9c) ∧ w'.cell? ⟨w.heap.size + 1, 2, none⟩ = some (.slice A9' l9' c9c')) (go_keep) (first | (go_at_call 66; (with_reducible refine (ref_den b _ _ _ (G2.out _ hc) (Nat.le_refl _)).mono ?_); rintro e w1 ⟨v1, rfl, hR1, hw1⟩; obtain ⟨g1, A1, l1, c1c, hv1⟩ := hR1.shape; subst hv1; have c0 := c0.below hw1 c0.lt; (try clear c0q0 c0q1 c0q2); obtain ⟨c0q0, c0q1, c0q2⟩ := c0.c3; (try clear c0l); have c0l := c0.lt; have c1 := c1.below hw1 c1.lt; (try clear c1q0 c1q1 c1q2); obtain ⟨c1q0, c1q1, c1q2⟩ := c1.c3; (try clear c1l); have c1l := c1.lt; have c2 := c2.below hw1 c2.lt; (try clear c2l); have c2l := c2.lt; have hc := bthen hc hw1) | (go_at_call 65; (with_reducible refine (ref_intMul _ _ _ _ _ _ (G1.out _ hc).num hR1 (Nat.le_refl _) s1 s4).mono ?_); rintro e w2 ⟨v2, rfl, hR2, hw2⟩; obtain ⟨g2, A2, l2, c2c, hv2⟩ := hR2.shape; subst hv2; have c0 := c0.below hw2 c0.lt; (try clear c0q0 c0q1 c0q2); obtain ⟨c0q0, c0q1, c0q2⟩ := c0.c3; (try clear c0l); have c0l := c0.lt; have c1 := c1.below hw2 c1.lt; (try clear c1q0 c1q1 c1q2); obtain ⟨c1q0, c1q1, c1q2⟩ := c1.c3; (try clear c1l); have c1l := c1.lt; have c2 := c2.below hw2 c2.lt; (try clear c2l); have c2l := c2.lt; have hR1 := (hR1.next (Nat.le_refl _) hw2).more hw2.size; have hc := bthen hc hw2) | (go_at_call 66; (with_reducible refine (ref_den a _ _ _ (G1.out _ hc) (Nat.le_refl _)).mono ?_); rintro e w3 ⟨v3, rfl, hR3, hw3⟩; obtain ⟨g3, A3, l3, c3c, hv3⟩ := hR3.shape; subst hv3; have c0 := c0.below hw3 c0.lt; (try clear c0q0 c0q1 c0q2); obtain ⟨c0q0, c0q1, c0q2⟩ := c0.c3; (try clear c0l); have c0l := c0.lt; have c1 := c1.below hw3 c1.lt; (try clear c1q0 c1q1 c1q2); obtain ⟨c1q0, c1q1, c1q2⟩ := c1.c3; (try clear c1l); have c1l := c1.lt; have c2 := c2.below hw3 c2.lt; (try clear c2l); have c2l := c2.lt; have hR1 := (hR1.next (Nat.le_refl _) hw3).more hw3.size; have hR2 := (hR2.next (Nat.le_refl _) hw3).more hw3.size; have hc := bthen hc hw3) | (go_at_call 65; (with_reducible refine (ref_intMul _ _ _ _ _ _ hR3 (G2.out _ hc).num (Nat.le_refl _) s2 s3).mono ?_); rintro e w4 ⟨v4, rfl, hR4, hw4⟩; obtain ⟨g4, A4, l4, c4c, hv4⟩ := hR4.shape; subst hv4; have c0 := c0.below hw4 c0.lt; (try clear c0q0 c0q1 c0q2); obtain ⟨c0q0, c0q1, c0q2⟩ := c0.c3; (try clear c0l); have c0l := c0.lt; have c1 := c1.below hw4 c1.lt; (try clear c1q0 c1q1 c1q2); obtain ⟨c1q0, c1q1, c1q2⟩ := c1.c3; (try clear c1l); have c1l := c1.lt; have c2 := c2.below hw4 c2.lt; (try clear c2l); have c2l := c2.lt; have hR1 := (hR1.next (Nat.le_refl _) hw4).more hw4.size; have hR2 := (hR2.next (Nat.le_refl _) hw4).more hw4.size; have hR3 := (hR3.next (Nat.le_refl _) hw4).more hw4.size; have hc := bthen hc hw4) | (go_at_call 63; (with_reducible refine (HMK.out _ _ _ hR2 hR4).mono ?_); rintro e w5 ⟨v5, rfl, hR5, hw5⟩; obtain ⟨g5, A5, l5, c5c, A5', l5', c5c', hv5⟩ := hR5.shape; subst hv5; have c0 := c0.below hw5 c0.lt; (try clear c0q0 c0q1 c0q2); obtain ⟨c0q0, c0q1, c0q2⟩ := c0.c3; (try clear c0l); have c0l := c0.lt; have c1 := c1.below hw5 c1.lt; (try clear c1q0 c1q1 c1q2); obtain ⟨c1q0, c1q1, c1q2⟩ := c1.c3; (try clear c1l); have c1l := c1.lt; have c2 := c2.below hw5 c2.lt; (try clear c2l); have c2l := c2.lt; have hR1 := (hR1.next (Nat.le_refl _) hw5).more hw5.size; have hR2 := (hR2.next (Nat.le_refl _) hw5).more hw5.size; have hR3 := (hR3.next (Nat.le_refl _) hw5).more hw5.size; have hR4 := (hR4.next (Nat.le_refl _) hw5).more hw5.size; have hc := bthen hc hw5; obtain ⟨c2q0, c2q1, c2q2, c2f0, c2f1, c2f2, c2s0, c2s1, c2s2⟩ := c2.f3))
  all_goals
    go_wp2
    refine bodyPost_ret (v := .agg #[.bool g5, .slice A5 l5 c5c, .slice A5' l5' c5c']) (by simp [results, Tryz.results48, go_sem, c2s0, c2s1, c2s2]) rfl ?_
    exact retQ_done hB hc hR5 c2 (by omega)
end Go.Proofs.YtbjemjopcoajcaaGreatDoor

/-! Rows of the document's fractions that are made and filled; its Turns. -/
namespace Go.Proofs.YtbjemjopcoajcaaGreatDoor
open Go.RowKit
set_option linter.unusedSimpArgs false
set_option linter.unusedVariables false

def RC0 : RC := ⟨false, none, 0, 0, none, 0, 0⟩
/-- a row of which the members in S stand for these fractions -/
def OwnP (w : World) (v : Value) (S : List Nat) (ql : List Rat) : Prop := ∃ rl, OwnW w 44 3 RC.cs v rl ∧ rl.length = ql.length ∧ ∀ (c : Nat), c ∈ S → ∀ r q, rl[c]? = some r → ql[c]? = some q → IsQ w w.heap.size r.v q
theorem OwnP.next {w w' : World} {v : Value} {S : List Nat} {ql : List Rat} (h : OwnP w v S ql) (hb : Below w.heap.size w w') : OwnP w' v S ql := by
  obtain ⟨rl, h1, h2, h3⟩ := h
  exact ⟨rl, h1.next hb, h2, fun c hc r q hr hq => ((h3 c hc r q hr hq).next (Nat.le_refl _) hb).more hb.size⟩
theorem OwnP.lt {w : World} {v : Value} {S : List Nat} {ql : List Rat} (h : OwnP w v S ql) : ∀ b, v.ownBlock = some b → b < w.heap.size := by
  obtain ⟨rl, h1, _⟩ := h
  exact h1.lt
theorem OwnP.len {w : World} {A : Option Addr} {n c : Nat} {S : List Nat} {ql : List Rat} (h : OwnP w (.slice A n c) S ql) : ∃ rl : List RC, n = rl.length ∧ rl.length = ql.length ∧ OwnW w 44 3 RC.cs (.slice A n c) rl ∧ ∀ (c : Nat), c ∈ S → ∀ r q, rl[c]? = some r → ql[c]? = some q → IsQ w w.heap.size r.v q := by
  obtain ⟨rl, h1, h2, h3⟩ := h
  refine ⟨rl, ?_, h2, h1, h3⟩
  obtain ⟨A', c', h4, _⟩ := h1.form
  injection h4
theorem OwnP.cell3 {w : World} {g n c : Nat} {S : List Nat} {ql : List Rat} (h : OwnP w (.slice (some ⟨g, 0, none⟩) n c) S ql) {k : Nat} (hk : k < n) :
    ∃ r : RC, AtR w g (k * 3) r ∧ (k ∈ S → ∀ q, ql[k]? = some q → IsQ w w.heap.size r.v q) := by
  obtain ⟨rl, hn, h2, h1, h3⟩ := h.len
  subst hn
  have hr : rl[k]? = some rl[k] := List.getElem?_eq_getElem hk
  have hc : ∀ j, j < 3 → w.cell? ⟨g, k * 3 + j, none⟩ = (rl[k]).cs[j]? := fun j hj => by
    rw [World.ownsRow.cellAt h1 (k * 3 + j) (by omega)]
    exact flatW_at RC.len rl k j _ hr hj
  exact ⟨rl[k], ⟨⟨hc 0 (by omega), hc 1 (by omega), hc 2 (by omega)⟩⟩, fun hs q hq => h3 k hs _ q hr hq⟩
theorem OwnP.frozen {w : World} {g n c : Nat} {S : List Nat} {ql : List Rat} (h : OwnP w (.slice (some ⟨g, 0, none⟩) n c) S ql) (j : Nat) : w.frozen? ⟨g, j, none⟩ = false := by
  obtain ⟨rl, hn, h2, h1, h3⟩ := h.len
  subst hn
  exact World.ownsRow.frozenAt h1 j
/-- a member comes -/
theorem OwnP.store {w : World} {g n c : Nat} {S : List Nat} {ql : List Rat} {q : Rat} (h : OwnP w (.slice (some ⟨g, 0, none⟩) n c) S ql) (i : Nat) (r : RC) (hq : IsQ w w.heap.size r.v q) :
    OwnP (((w.setCell ⟨g, i * 3, none⟩ (.bool r.g)).setCell ⟨g, i * 3 + 1, none⟩ (.slice r.A r.l r.c)).setCell ⟨g, i * 3 + 2, none⟩ (.slice r.A' r.l' r.c')) (.slice (some ⟨g, 0, none⟩) n c) (i :: S) (ql.set i q) := by
  obtain ⟨rl, hn, h2, h1, h3⟩ := h.len
  subst hn
  have s1 := World.ownsRow.stored h1 (i * 3) (.bool r.g)
  have s2 := World.ownsRow.stored s1.1 (i * 3 + 1) (.slice r.A r.l r.c)
  have s3 := World.ownsRow.stored s2.1 (i * 3 + 2) (.slice r.A' r.l' r.c')
  rw [RC.set_] at s3
  have hz : (((w.setCell ⟨g, i * 3, none⟩ (.bool r.g)).setCell ⟨g, i * 3 + 1, none⟩ (.slice r.A r.l r.c)).setCell ⟨g, i * 3 + 2, none⟩ (.slice r.A' r.l' r.c')).heap.size = w.heap.size := by simp
  have hkeep : ∀ V x, IsQ w w.heap.size V x → IsQ (((w.setCell ⟨g, i * 3, none⟩ (.bool r.g)).setCell ⟨g, i * 3 + 1, none⟩ (.slice r.A r.l r.c)).setCell ⟨g, i * 3 + 2, none⟩ (.slice r.A' r.l' r.c')) (((w.setCell ⟨g, i * 3, none⟩ (.bool r.g)).setCell ⟨g, i * 3 + 1, none⟩ (.slice r.A r.l r.c)).setCell ⟨g, i * 3 + 2, none⟩ (.slice r.A' r.l' r.c')).heap.size V x := fun V x hV => hV.row h1 (by rw [hz]; exact Nat.le_refl _) fun k hk hne => by
    have hkg : k ≠ g := fun e => hne (by rw [e]; rfl)
    exact (Below.heap_setCell _ _ _ k hkg).trans ((Below.heap_setCell _ _ _ k hkg).trans (Below.heap_setCell _ _ _ k hkg))
  refine ⟨rl.set i r, by unfold OwnW; rw [List.length_set]; exact s3.1, by simp [h2], fun c hc r' q' hr' hq' => ?_⟩
  by_cases e : i = c
  · subst e
    by_cases hi : i < rl.length
    · rw [List.getElem?_set_self hi] at hr'
      rw [List.getElem?_set_self (by omega)] at hq'
      obtain rfl := Option.some.inj hr'
      obtain rfl := Option.some.inj hq'
      exact hkeep _ _ hq
    · rw [List.getElem?_eq_none (by rw [List.length_set]; omega)] at hr'
      cases hr'
  · rw [List.getElem?_set_ne e] at hr' hq'
    rcases List.mem_cons.1 hc with h4 | h4
    · exact absurd h4.symm e
    · exact hkeep _ _ (h3 c h4 r' q' hr' hq')
theorem OwnP.full {w : World} {A : Option Addr} {n c : Nat} {S : List Nat} {ql : List Rat} (h : OwnP w (.slice A n c) S ql) (hs : ∀ k, k < n → k ∈ S) : OwnR w (.slice A n c) ql := by
  obtain ⟨rl, hn, h2, h1, h3⟩ := h.len
  refine ⟨rl, h1, h2, fun i r q hr hq => h3 i (hs i ?_) r q hr hq⟩
  have := (List.getElem?_eq_some_iff.1 hr).1
  omega
theorem OwnR.part {w : World} {v : Value} {ql : List Rat} (S : List Nat) (h : OwnR w v ql) : OwnP w v S ql := by
  obtain ⟨rl, h1, h2⟩ := h
  exact ⟨rl, h1, h2.1, fun c _ r q hr hq => h2.2 c r q hr hq⟩
theorem OwnP.more {w : World} {v : Value} {S S' : List Nat} {ql : List Rat} (h : OwnP w v S ql) (hs : ∀ c, c ∈ S' → c ∈ S) : OwnP w v S' ql := by
  obtain ⟨rl, h1, h2, h3⟩ := h
  exact ⟨rl, h1, h2, fun c hc => h3 c (hs c hc)⟩
theorem madeR (n : Nat) : (madeCells #[.bool false, .slice none 0 0, .slice none 0 0] (n * 3)).toList = (List.replicate n RC0).flatMap RC.cs := by
  apply List.ext_getElem?
  intro j
  by_cases hj : j < n * 3
  · have hi : j / 3 < n := by omega
    have e : j = j / 3 * 3 + j % 3 := by omega
    have h := flatW_at RC.len (List.replicate n RC0) (j / 3) (j % 3) RC0 (by rw [List.getElem?_replicate, if_pos hi]) (by omega)
    rw [← e] at h
    rw [h]
    have h5 : j % 3 = 0 ∨ j % 3 = 1 ∨ j % 3 = 2 := by omega
    have h6 : (madeCells #[.bool false, .slice none 0 0, .slice none 0 0] (n * 3)).toList[j]? = some ((#[.bool false, .slice none 0 0, .slice none 0 0] : Array Value)[j % 3]!) := by
      unfold madeCells
      rw [Array.getElem?_toList, Array.getElem?_map, Array.getElem?_range, if_pos hj]
      rfl
    rw [h6]
    rcases h5 with h5 | h5 | h5 <;> rw [h5] <;> rfl
  · rw [List.getElem?_eq_none (by simp [size_madeCells]; omega), List.getElem?_eq_none (by rw [flatW_len RC.len, List.length_replicate]; omega)]
/-- 'make([]ref.Q, n)' -/
theorem make_r (n : Nat) (hn : n ≤ 1000000) (ql : List Rat) (hq : ql.length = n) (w : World) : ∃ w', (Instr.makeSlice 24 (.int .i64 (n : Int)) (.int .i64 (n : Int))).run Tryz.prog w = .ok (.slice (some ⟨w.heap.size, 0, none⟩) n n) w' ∧ OwnP w' (.slice (some ⟨w.heap.size, 0, none⟩) n n) [] ql ∧ Below w.heap.size w w' := by
  obtain ⟨i0, hi0, hz0, hz1, hz2⟩ := info_parts (Tryz.eltR).info
  obtain ⟨w', h1, h2, h3⟩ := run_makeSlice_full (P := Tryz.prog) (w := w) 0 24 44 i0 _ 3 (Tryz.eltR).under hi0 hz0 hz1 .i64 .i64 n (by omega) (by rw [hz2]; omega) (by unfold maxLen; omega) (Nat.zero_le _)
  refine ⟨w', h1, ⟨List.replicate n RC0, ?_, by simp [hq], fun c hc => by cases hc⟩, ?_⟩
  · unfold OwnW
    rw [List.length_replicate, ← madeR]
    exact h2
  · obtain ⟨k1, k2, k3, k4, k5⟩ := h3
    exact ⟨k1, k2, k3, k4, fun k hk => k5 k hk (by simp)⟩
theorem Reads.at1 {α : Type} {w : World} {B : Nat} {A : Option Addr} {n : Nat} {f : α → Value} {l : List α} (h : Reads w B 1 A n (l.map f)) {k : Nat} (hk : k < n) : ∃ ad g o x, A = some ad ∧ ad.add k = ⟨g, o, none⟩ ∧ g < B ∧ l[k]? = some x ∧ At1 w g o (f x) := by
  obtain ⟨ad, x, h1, h2, h3, h4⟩ := h.atf hk
  have e0 := spot_none h4
  have hb := block_of_add ad k
  cases hP : ad.add k with
  | mk g o sp =>
    rw [hP] at h4 e0 hb
    obtain rfl : sp = none := e0
    exact ⟨ad, g, o, x, h1, hP, by have : g = ad.block := hb; omega, h3, At1.mk' h4⟩
theorem mset3 {B g i j m : Nat} {w w' : World} (h : Below B w w') (hg : B ≤ g) (x y z : Value) : Below B w (((w'.setCell ⟨g, i, none⟩ x).setCell ⟨g, j, none⟩ y).setCell ⟨g, m, none⟩ z) := ((h.setCell hg x).setCell hg y).setCell hg z
set_option maxRecDepth 100000 in
set_option maxHeartbeats 8000000 in
theorem ref_turns (Av Ao : Option Addr) (m cv n co B M : Nat) (lv : List Rat) (o : List Nat) (w : World) (h : ReadsR w B Av m lv) (h2 : Reads w B 1 Ao n (o.map iv)) (hB : B ≤ w.heap.size) (hm : m = 2 ^ n) (hn : n ≤ 4) (ho : ∀ c ∈ o, c < n) (hnd : o.Nodup)
    (hM : M ≤ 1000000) (hl : ∀ x ∈ lv, QS M x) :
    Calls Tryz.prog 25 #[.slice Av m cv, .slice Ao n co] w fun e w' => ∃ v, e = .returned v ∧ OwnR w' v (turnsGo lv o 0 (List.replicate n 0)) ∧ (∀ b, v.ownBlock = some b → w.heap.size ≤ b) ∧ Below w.heap.size w w' := by
  have HM := Lib.hid hm
  have HLN := Lib.hid h.len
  have HOL := Lib.hid h2.lenf
  have HR := Lib.hid h
  have H2 := Lib.hid h2
  have HL := Lib.hid hl
  have HO := Lib.hid ho
  have HND := Lib.hid hnd
  have hm16 : m ≤ 16 := by
    rw [hm]
    exact Nat.pow_le_pow_right (n := 2) (by omega) hn
  clear hm h h2 hl ho hnd
  go_enter Tryz.func25, Tryz.ntmps25
  obtain ⟨w1, hmk, ho1, hb1⟩ := make_r n (by omega) (List.replicate n 0) (by simp) w
  have hg6 : w.heap.size < w1.heap.size := OwnP.lt ho1 _ rfl
  go_wp2_with fail
  clear hmk
  obtain ⟨g6, hg6e⟩ : ∃ g6, w.heap.size = g6 := ⟨_, rfl⟩
  rw [hg6e] at ho1 hg6 ⊢
  have hg6w : w.heap.size ≤ g6 := by omega
  have HB1 := Lib.hid hb1
  have HO1 := Lib.hid ho1
  clear hg6e hb1 ho1
  go_loopw [6, 7] (fun s i wr => ∃ k : Nat, k ≤ n ∧ i = .int .i64 (k : Int) ∧ s = .int .i64 (setOf (o.take k) 0 : Int) ∧ OwnP wr (.slice (some ⟨g6, 0, none⟩) n n) (o.take k) (turnsGo lv (o.take k) 0 (List.replicate n 0)) ∧ Below w.heap.size w wr) (fun _ i _ => n - (intOf i).toNat)
  case atStart => exact ⟨0, by omega, rfl, rfl, HO1.out, HB1.out⟩
  case round =>
    obtain ⟨k, hk, rfl, rfl, ho6, hbw⟩ := hrel
    rename World => wr
    clear HB1 HO1
    by_cases hkn : k < n
    · have k1 : (k : Int) < (n : Int) := by omega
      obtain ⟨ad2, go, oo, c, rfl, hPo, hgo, hoc, b0⟩ := Reads.at1 (H2.out.below (hbw.mono hB)) hkn
      have hcn : c < n := HO.out c (List.mem_of_getElem? hoc)
      have hts : o.take (k + 1) = o.take k ++ [c] := by rw [List.take_add_one, hoc]; rfl
      have hsl := setOf_lt (o.take k) (fun c hc => HO.out c (List.mem_of_mem_take hc)) 0 (Nat.two_pow_pos n)
      have hsn := setOf_snoc (o.take k) c 0
      have htg := turnsGo_snoc lv (o.take k) c 0 (List.replicate n 0)
      rw [← hts] at hsn htg
      rw [← HM.out] at hsl
      have c1 : (c : Int) < 64 := by omega
      have c2 : (c : Int) < (n : Int) := by omega
      have hor := or_walk (k := setOf (o.take k) 0) (c := c) (by omega) (by omega)
      have hpw := pow_wrap (k := c) (by omega)
      have hnx : setOf (o.take k) 0 ||| 2 ^ c < m := by rw [HM.out]; exact or_lt (by rw [← HM.out]; exact hsl) hcn
      generalize setOf (o.take k) 0 = s at *
      obtain ⟨sn, hsne⟩ : ∃ sn, s ||| 2 ^ c = sn := ⟨_, rfl⟩
      rw [hsne] at hsn htg hor hnx
      have s1 : (s : Int) < (m : Int) := by omega
      have s2 : (sn : Int) < (m : Int) := by omega
      obtain ⟨x, hx⟩ : ∃ x, lv[sn]? = some x := ⟨_, List.getElem?_eq_getElem (by have := HLN.out; omega)⟩
      obtain ⟨y, hy⟩ : ∃ y, lv[s]? = some y := ⟨_, List.getElem?_eq_getElem (by have := HLN.out; omega)⟩
      rw [getD_of hx, getD_of hy] at htg
      obtain ⟨adx, gx, ox, r1, rfl, hPx, hgBx, b1, hi1⟩ := (HR.out.below (hbw.mono hB)).at_ hx (by omega)
      obtain ⟨ady, gy, oy, r2, hAy, hPy, hgBy, b2, hi2⟩ := (HR.out.below (hbw.mono hB)).at_ hy (by omega)
      obtain rfl := Option.some.inj hAy
      obtain ⟨r3, b3, _⟩ := OwnP.cell3 ho6 hcn
      have hxs : QS 1000000 x := (HL.out x (List.mem_of_getElem? hx)).mono hM
      have hys : QS 1000000 y := (HL.out y (List.mem_of_getElem? hy)).mono hM
      have hBw := Nat.le_trans hB hbw.size
      have hsub : ∀ w', Below wr.heap.size wr w' → Calls Tryz.prog 51 #[r1.v, r2.v] w' (RetQ (x - y) w') := fun w' hb => ref_sub x y w'.heap.size _ _ w' (((hi1.more hBw).next (Nat.le_refl _) hb).more hb.size) (((hi2.more hBw).next (Nat.le_refl _) hb).more hb.size) (Nat.le_refl _) (hxs.mono (by omega)) (hys.mono (by omega))
      generalize x - y = dd at *
      obtain ⟨rg, rA, rl, rc, rA', rl', rc'⟩ := r1
      obtain ⟨tg, tA, tl, tc, tA', tl', tc'⟩ := r2
      obtain ⟨ug, uA, ul, uc, uA', ul', uc'⟩ := r3
      unfold RC.v at hsub
      simp only [] at hsub
      have HSUB := Lib.hid hsub
      have HTG := Lib.hid htg
      have HSN := Lib.hid hsn
      have HTS := Lib.hid hts
      have ne1 : ¬ g6 = gx := by omega
      have ne2 : ¬ gx = g6 := by omega
      have ne3 : ¬ g6 = gy := by omega
      have ne4 : ¬ gy = g6 := by omega
      have ne5 : ¬ g6 = go := by omega
      have ne6 : ¬ go = g6 := by omega
      unfold iv at b0
      clear hsub htg hsn hts hoc hxs hys hx hy hAy hsne hi1 hi2
      obtain ⟨b0c, _⟩ := b0.c2
      go_upto_region 7 with fail
      obtain ⟨b0q0, b0q1⟩ := b0.c2; have c0 := b0.drew; have c0l := c0.lt; obtain ⟨b1q0, b1q1, b1q2⟩ := b1.c3; have c1 := b1.drew; have c1l := c1.lt; obtain ⟨b2q0, b2q1, b2q2⟩ := b2.c3; have c2 := b2.drew; have c2l := c2.lt; obtain ⟨b3q0, b3q1, b3q2⟩ := b3.c3; have c3 := b3.drew; have c3l := c3.lt; have hc := bdrew0 wr; go_region_with (first | (go_at_call 51; (with_reducible refine (HSUB.out _ hc).mono ?_); rintro e w1 ⟨v1, rfl, hR1, hw1⟩; obtain ⟨g1, A1, l1, c1c, A1', l1', c1c', hv1⟩ := hR1.shape; subst hv1; have c0 := c0.below hw1 c0.lt; (try clear c0q0 c0q1); obtain ⟨c0q0, c0q1⟩ := c0.c2; (try clear c0l); have c0l := c0.lt; have c1 := c1.below hw1 c1.lt; (try clear c1q0 c1q1 c1q2); obtain ⟨c1q0, c1q1, c1q2⟩ := c1.c3; (try clear c1l); have c1l := c1.lt; have c2 := c2.below hw1 c2.lt; (try clear c2q0 c2q1 c2q2); obtain ⟨c2q0, c2q1, c2q2⟩ := c2.c3; (try clear c2l); have c2l := c2.lt; have c3 := c3.below hw1 c3.lt; (try clear c3q0 c3q1 c3q2); obtain ⟨c3q0, c3q1, c3q2⟩ := c3.c3; (try clear c3l); have c3l := c3.lt; have hc := bthen hc hw1; have o6 := OwnP.next ho6 hc; have f0 := OwnP.frozen o6 (c * 3); have f1 := OwnP.frozen o6 (c * 3 + 1); have f2 := OwnP.frozen o6 (c * 3 + 2)))
      all_goals
        go_wp2
        exact ⟨⟨k + 1, by omega, by go_num, by rw [HSN.out], by
          rw [HTG.out]
          exact (OwnP.store o6 c ⟨g1, A1, l1, c1c, A1', l1', c1c'⟩ hR1).more (fun d hd => by
            rw [HTS.out] at hd
            rcases List.mem_append.1 hd with h | h
            · exact List.mem_cons_of_mem _ h
            · rw [List.mem_singleton.1 h]; exact List.mem_cons_self), mset3 (hbw.trans (hc.mono hbw.size)) (by omega) _ _ _⟩, by simp [intOf]; omega⟩
    · obtain rfl : k = n := by omega
      have k1 : ¬ (k : Int) < (k : Int) := by omega
      have hta : o.take k = o := List.take_of_length_le (by have := HOL.out; omega)
      rw [hta] at ho6 ⊢
      have hfull := OwnP.full ho6 (fun c hc => all_in (by omega) HOL.out HO.out HND.out hc)
      have HF6 := Lib.hid hfull
      have HBW := Lib.hid hbw
      clear hfull ho6 hbw
      generalize setOf o 0 = s at *
      go_wp2
      go_ret
      exact ⟨_, rfl, HF6.out, fun b hb => by have e : g6 = b := by simpa [Value.ownBlock] using hb
                                             omega, HBW.out⟩
end Go.Proofs.YtbjemjopcoajcaaGreatDoor

/-! The document's Shares: the mean over all orders. -/
namespace Go.Proofs.YtbjemjopcoajcaaGreatDoor
open Go.RowKit
set_option linter.unusedSimpArgs false
set_option linter.unusedVariables false

/-- what column c adds in the first k orders -/
def accT (v : List Rat) (n k c : Nat) : Rat := (((ordersL n).take k).map fun o => turnQ v o 0 c).foldl (· + ·) 0
theorem accT_succ (v : List Rat) (n : Nat) {k : Nat} (c : Nat) {o : List Nat} (ho : (ordersL n)[k]? = some o) : accT v n (k + 1) c = accT v n k c + turnQ v o 0 c := by
  unfold accT
  rw [List.take_add_one, ho, List.map_append, List.foldl_append]
  rfl
theorem accT_all (v : List Rat) (n c : Nat) : accT v n (ordersL n).length c / (((ordersL n).length : Int) : Rat) = meanQ v n c := by
  unfold accT meanQ
  rw [List.take_length]
theorem turnQ_size {m : Nat} {v : List Rat} (hv : ∀ x ∈ v, QS m x) (hm : 1 ≤ m) (o : List Nat) : ∀ s c, QS (m + m + 1) (turnQ v o s c) := by
  induction o with
  | nil => intro s c; exact QS.zero _ (by omega)
  | cons x o ih =>
    intro s c
    unfold turnQ
    split
    · exact (QS.getD hv hm _).sub (QS.getD hv hm _)
    · exact ih _ _
theorem accT_size {m : Nat} {v : List Rat} (hv : ∀ x ∈ v, QS m x) (hm : 1 ≤ m) (n c : Nat) : ∀ k, QS (k * (m + m + 2) + 1) (accT v n k c) := by
  intro k
  induction k with
  | zero => exact QS.zero _ (by omega)
  | succ k ih =>
    have e : (k + 1) * (m + m + 2) + 1 = (k * (m + m + 2) + 1) + (m + m + 1) + 1 := by rw [Nat.add_mul]; omega
    cases ho : (ordersL n)[k]? with
    | none =>
      have hl : (ordersL n).length ≤ k := by simpa using ho
      have e2 : accT v n (k + 1) c = accT v n k c := by
        unfold accT
        rw [List.take_of_length_le (by omega), List.take_of_length_le hl]
      rw [e2]
      exact ih.mono (by rw [e]; omega)
    | some o =>
      rw [accT_succ v n c ho, e]
      exact ih.add (turnQ_size hv hm o 0 c)
/-- a row that goes over from f to g, member by member -/
def mixF (f g : Nat → Rat) (n i : Nat) : List Rat := (List.range n).map fun c => if c < i then g c else f c
theorem mixF_len (f g : Nat → Rat) (n i : Nat) : (mixF f g n i).length = n := by simp [mixF]
theorem mixF_zero (f g : Nat → Rat) (n : Nat) : mixF f g n 0 = (List.range n).map f := by
  unfold mixF
  apply List.map_congr_left
  intro c _
  rw [if_neg (by omega)]
theorem mixF_all (f g : Nat → Rat) (n : Nat) : mixF f g n n = (List.range n).map g := by
  unfold mixF
  apply List.map_congr_left
  intro c hc
  rw [if_pos (List.mem_range.1 hc)]
theorem mixF_at (f g : Nat → Rat) {n i : Nat} (h : i < n) : (mixF f g n i)[i]? = some (f i) := by
  unfold mixF
  rw [List.getElem?_map, List.getElem?_range h]
  show some (if i < i then g i else f i) = some (f i)
  rw [if_neg (by omega)]
theorem mixF_set (f g : Nat → Rat) {n i : Nat} (h : i < n) : (mixF f g n i).set i (g i) = mixF f g n (i + 1) := by
  apply List.ext_getElem?
  intro c
  by_cases hc : c < n
  · have e : ∀ j, (mixF f g n j)[c]? = some (if c < j then g c else f c) := fun j => by
      unfold mixF
      rw [List.getElem?_map, List.getElem?_range hc]
      rfl
    by_cases hi : i = c
    · subst hi
      rw [List.getElem?_set_self (by rw [mixF_len]; exact h), e, if_pos (by omega)]
    · rw [List.getElem?_set_ne hi, e, e]
      by_cases h2 : c < i
      · rw [if_pos h2, if_pos (by omega)]
      · rw [if_neg h2, if_neg (by omega)]
  · rw [List.getElem?_eq_none (by rw [List.length_set, mixF_len]; omega), List.getElem?_eq_none (by rw [mixF_len]; omega)]
theorem Exc.set3 {b i j k : Nat} {w w' : World} (h : Exc b w w') (x y z : Value) : Exc b w (((w'.setCell ⟨b, i, none⟩ x).setCell ⟨b, j, none⟩ y).setCell ⟨b, k, none⟩ z) := ((h.set_ i x).set_ j y).set_ k z
theorem OwnR.at_ {w : World} {g n c : Nat} {ql : List Rat} (h : OwnR w (.slice (some ⟨g, 0, none⟩) n c) ql) {k : Nat} {q : Rat} (hq : ql[k]? = some q) : ∃ r : RC, AtR w g (k * 3) r ∧ IsQ w w.heap.size r.v q := by
  obtain ⟨r, h0, h1, h2, h3⟩ := OwnR.cell3 h hq
  exact ⟨r, ⟨h0, h1, h2⟩, h3⟩
theorem turns_at (v : List Rat) {n : Nat} {o : List Nat} (hnd : o.Nodup) (hall : ∀ c, c < n → c ∈ o) {c : Nat} (hc : c < n) : (turnsGo v o 0 (List.replicate n 0))[c]? = some (turnQ v o 0 c) := by
  rw [turnsGo_at v o hnd 0 (List.replicate n 0) c (by simpa using hc), if_pos (hall c hc)]
theorem rep_zero (n i : Nat) : (List.replicate n (0 : Rat)).set i 0 = List.replicate n 0 := by
  apply List.ext_getElem?
  intro c
  rw [List.getElem?_set]
  by_cases h : i = c
  · subst h
    rw [if_pos rfl]
    by_cases h2 : i < n
    · rw [if_pos (by simpa using h2), List.getElem?_replicate, if_pos h2]
    · rw [if_neg (by simpa using h2), List.getElem?_replicate, if_neg h2]
  · rw [if_neg h]
theorem range_accT0 (v : List Rat) (n : Nat) : (List.range n).map (accT v n 0) = List.replicate n 0 := by
  apply List.ext_getElem?
  intro c
  by_cases h : c < n
  · rw [List.getElem?_map, List.getElem?_range h, List.getElem?_replicate, if_pos h]; rfl
  · rw [List.getElem?_eq_none (by simp; omega), List.getElem?_eq_none (by simp; omega)]
set_option maxRecDepth 100000 in
set_option maxHeartbeats 8000000 in
theorem ref_shares (Av : Option Addr) (m cv n B M : Nat) (lv : List Rat) (w : World) (h : ReadsR w B Av m lv) (hB : B ≤ w.heap.size) (hm : m = 2 ^ n) (hn1 : 1 ≤ n) (hn : n ≤ 4) (hM1 : 1 ≤ M) (hM : M ≤ 1000) (hl : ∀ x ∈ lv, QS M x) :
    Calls Tryz.prog 23 #[.slice Av m cv] w fun e w' => ∃ v, e = .returned v ∧ OwnR w' v (sharesQ lv n) ∧ (∀ b, v.ownBlock = some b → w.heap.size ≤ b) ∧ Below w.heap.size w w' := by
  have hcol := fun w => ref_columns m n w hm hn1 (by omega)
  have HCOL := Lib.hid hcol
  have HM := Lib.hid hm
  have HR := Lib.hid h
  have HLN := Lib.hid h.len
  have HL := Lib.hid hl
  obtain ⟨cnt, hcnt⟩ : ∃ cnt, (ordersL n).length = cnt := ⟨_, rfl⟩
  have hc24 := orders_cnt n (by omega)
  rw [hcnt] at hc24
  have n6 : ¬ (n : Int) > 6 := by omega
  have n7 : ¬ 6 < (n : Int) := by omega
  have hmean : ∀ c, c < n → accT lv n cnt c / ((cnt : Int) : Rat) = shareQ lv n c := by
    intro c hc
    rw [← hcnt, accT_all]
    exact mean_share (by rw [h.len, hm]) hn hc
  have HMEAN := Lib.hid hmean
  have HCNT := Lib.hid hcnt
  clear hcol hm h hl hcnt hmean
  go_enter Tryz.func23, Tryz.ntmps23
  go_wp2_with fail
  refine (HCOL.out w).mono ?_
  rintro e w' ⟨rfl, rfl⟩
  clear HCOL
  go_wp2_with fail
  refine (ref_orders n w hn).mono ?_
  rintro e x1 ⟨vl, rfl, hol, hfl, hbl⟩
  obtain ⟨Al, cl, rfl⟩ := hol.form
  obtain ⟨gl, rfl⟩ := hol.addr (by rw [HCNT.out]; omega)
  rw [HCNT.out] at hol ⊢
  have HOL := Lib.hid hol
  have HB1 := Lib.hid hbl
  clear hol hfl hbl
  obtain ⟨w1, hmk, ho1, hb1⟩ := make_r n (by omega) (List.replicate n 0) (by simp) x1
  have hg6 : x1.heap.size < w1.heap.size := OwnP.lt ho1 _ rfl
  go_wp2_with fail
  clear hmk
  obtain ⟨g6, hg6e⟩ : ∃ g6, x1.heap.size = g6 := ⟨_, rfl⟩
  rw [hg6e] at ho1 hg6 ⊢
  have hg6w : x1.heap.size ≤ g6 := by omega
  have HBX := Lib.hid hb1
  have HO1 := Lib.hid ho1
  clear hg6e hb1 ho1
  go_loopw [6] (fun p wr => ∃ i : Nat, i ≤ n ∧ p = .int .i64 (i : Int) ∧ OwnP wr (.slice (some ⟨g6, 0, none⟩) n n) (List.range i) (List.replicate n 0) ∧ Below x1.heap.size x1 wr) (fun p _ => n - (intOf p).toNat)
  case atStart => exact ⟨0, by omega, rfl, HO1.out, HBX.out⟩
  case round =>
    obtain ⟨i, hi, rfl, ho6, hbw⟩ := hrel
    rename World => wr
    clear HO1 HBX
    by_cases hin : i < n
    · have i1 : (i : Int) < (n : Int) := by omega
      have HO := Lib.hid ho6
      have HBW := Lib.hid hbw
      clear ho6 hbw
      go_wp2_with fail
      refine (ref_of 0 wr (by omega) (by omega)).mono ?_
      rintro e w2 ⟨v2, rfl, hR2, hw2⟩
      obtain ⟨g2, A2, l2, c2, A2', l2', c2', rfl⟩ := hR2.shape
      have o6 := OwnP.next HO.out hw2
      obtain ⟨r3, b3, _⟩ := OwnP.cell3 o6 hin
      obtain ⟨z0, z1, z2⟩ := b3.c3
      have f0 := OwnP.frozen o6 (i * 3)
      have f1 := OwnP.frozen o6 (i * 3 + 1)
      have f2 := OwnP.frozen o6 (i * 3 + 2)
      have st := OwnP.store o6 i ⟨g2, A2, l2, c2, A2', l2', c2'⟩ hR2
      rw [show ((0 : Int) : Rat) = 0 from rfl, rep_zero] at st
      have HST := Lib.hid (st.more (S' := List.range (i + 1)) (fun d hd => by
        have := List.mem_range.1 hd
        by_cases e : d = i
        · rw [e]; exact List.mem_cons_self
        · exact List.mem_cons_of_mem _ (List.mem_range.2 (by omega))))
      have HB2 := Lib.hid (HBW.out.trans (hw2.mono HBW.out.size))
      clear o6 b3 st hR2 hw2 HO HBW
      go_wp2
      exact ⟨⟨i + 1, by omega, by go_num, HST.out, mset3 HB2.out (by omega) _ _ _⟩, by simp [intOf]; omega⟩
    · obtain rfl : i = n := by omega
      have i1 : ¬ (i : Int) < (i : Int) := by omega
      have hfull := OwnP.full ho6 (fun c hc => List.mem_range.2 hc)
      rw [← range_accT0 lv i] at hfull
      have HO := Lib.hid hfull
      have HBW := Lib.hid hbw
      clear hfull ho6 hbw
      go_wp2_with fail
      go_loopw [7] (fun p wr => ∃ k : Nat, k ≤ cnt ∧ p = .int .i64 (k : Int) ∧ OwnR wr (.slice (some ⟨g6, 0, none⟩) i i) ((List.range i).map (accT lv i k)) ∧ Below x1.heap.size x1 wr) (fun p _ => cnt - (intOf p).toNat)
      case atStart => exact ⟨0, by omega, rfl, HO.out, HBW.out⟩
      case round =>
        obtain ⟨k, hk, rfl, ho6, hbw⟩ := hrel
        rename World => wk
        clear HO HBW
        by_cases hkc : k < cnt
        · have k1 : (k : Int) < (cnt : Int) := by omega
          obtain ⟨o, ho⟩ : ∃ o, (ordersL i)[k]? = some o := ⟨_, List.getElem?_eq_getElem (by have := HCNT.out; omega)⟩
          obtain ⟨f1, f2, f3, f4⟩ := orders_fine i (by omega) o (List.mem_of_getElem? ho)
          obtain ⟨Ao, co, hcell, hoi⟩ := OwnO.at_ (OwnO.next HOL.out hbw) ho
          rw [f1] at hcell hoi
          have hro := Own.reads hoi
          rw [f1] at hro
          have hacc := fun c => accT_succ lv i c ho
          have HACC := Lib.hid hacc
          have hBw := Nat.le_trans hB (Nat.le_trans HB1.out.size hbw.size)
          have hrv : ReadsR wk wk.heap.size Av m lv := by
            obtain ⟨rl, q1, q2⟩ := (HR.out.below (HB1.out.mono hB)).below (hbw.mono (Nat.le_trans hB HB1.out.size))
            exact ⟨rl, q1.more hBw, q2.mono fun V q h => h.more hBw⟩
          have HTU := Lib.hid (ref_turns Av Ao m cv i co wk.heap.size M lv o wk hrv hro (Nat.le_refl _) HM.out (by omega) f3 f2 (by omega) HL.out)
          have HF2 := Lib.hid f2
          have HF4 := Lib.hid f4
          have HO := Lib.hid ho6
          have HBW := Lib.hid hbw
          clear ho f1 f2 f3 f4 hoi hro hacc hrv ho6 hbw
          go_wp2_with fail
          refine HTU.out.mono ?_
          rintro e Y ⟨vt, rfl, hot, hft, hbt⟩
          have htl : (turnsGo lv o 0 (List.replicate i 0)).length = i := by rw [turnsGo_len]; simp
          obtain ⟨At, ct, rfl, _, _⟩ := hot.form
          obtain ⟨gt, rfl⟩ := OwnR.addr hot (by rw [htl]; omega)
          rw [htl] at hot hft ⊢
          have hgt : wk.heap.size ≤ gt := hft gt rfl
          have hg6k : g6 < wk.heap.size := OwnR.lt HO.out g6 rfl
          have HOY := Lib.hid (OwnR.next HO.out hbt)
          have HT := Lib.hid hot
          have HBY := Lib.hid (HBW.out.trans (hbt.mono HBW.out.size))
          clear hot hft hbt htl HTU HO HBW hcell
          go_wp2_with fail
          go_loopw [9] (fun p wq => ∃ c : Nat, c ≤ i ∧ p = .int .i64 (c : Int) ∧ OwnR wq (.slice (some ⟨g6, 0, none⟩) i i) (mixF (accT lv i k) (accT lv i (k + 1)) i c) ∧ Exc g6 Y wq) (fun p _ => i - (intOf p).toNat)
          case atStart => exact ⟨0, by omega, rfl, by rw [mixF_zero]; exact HOY.out, Exc.refl _ _⟩
          case round =>
            obtain ⟨c, hc0, rfl, ho6, hx⟩ := hrel
            rename World => wq
            by_cases hci : c < i
            · have c1 : (c : Int) < (i : Int) := by omega
              have hta := turns_at lv HF2.out HF4.out hci
              have hot : OwnR wq (.slice (some ⟨gt, 0, none⟩) i ct) (turnsGo lv o 0 (List.replicate i 0)) := OwnR.other HT.out HOY.out hx.size (fun b hb hne => hx.block b hb (fun e => hne (by rw [e]; rfl))) (fun b hb => by
                have e1 : gt = b := by simpa [Value.ownBlock] using hb
                intro e2
                have e3 : g6 = b := by simpa [Value.ownBlock] using e2
                omega)
              have hset := mixF_set (accT lv i k) (accT lv i (k + 1)) hci
              rw [HACC.out c] at hset
              obtain ⟨xa, hxa⟩ : ∃ xa, accT lv i k c = xa := ⟨_, rfl⟩
              obtain ⟨xt, hxt⟩ : ∃ xt, turnQ lv o 0 c = xt := ⟨_, rfl⟩
              have hcur := mixF_at (accT lv i k) (accT lv i (k + 1)) hci
              rw [hxa] at hcur hset
              rw [hxt] at hta hset
              have s1 : QS 1000000 xa := by
                rw [← hxa]
                refine (accT_size HL.out hM1 i c k).mono ?_
                have := Nat.mul_le_mul (show k ≤ 24 by omega) (show M + M + 2 ≤ 2002 by omega)
                omega
              have s2 : QS 1000000 xt := by rw [← hxt]; exact (turnQ_size HL.out hM1 o 0 c).mono (by omega)
              obtain ⟨r1, b1, hi1⟩ := OwnR.at_ ho6 hcur
              obtain ⟨r2, b2, hi2⟩ := OwnR.at_ hot hta
              have hadd : ∀ w', Below wq.heap.size wq w' → Calls Tryz.prog 29 #[r1.v, r2.v] w' (RetQ (xa + xt) w') := fun w' hb => ref_add xa xt w'.heap.size _ _ w' ((hi1.next (Nat.le_refl _) hb).more hb.size) ((hi2.next (Nat.le_refl _) hb).more hb.size) (Nat.le_refl _) (s1.mono (by omega)) (s2.mono (by omega))
              generalize xa + xt = xs at *
              obtain ⟨rg, rA, rl, rc, rA', rl', rc'⟩ := r1
              obtain ⟨tg, tA, tl, tc, tA', tl', tc'⟩ := r2
              unfold RC.v at hadd
              simp only [] at hadd
              have HADD := Lib.hid hadd
              have HSET := Lib.hid hset
              have HX := Lib.hid hx
              have ne1 : ¬ g6 = gt := by omega
              have ne2 : ¬ gt = g6 := by omega
              clear hadd hset hcur hta hot hxa hxt s1 s2 hi1 hi2 hx
              go_upto_region 17 with fail
              obtain ⟨b1q0, b1q1, b1q2⟩ := b1.c3; have c1 := b1.drew; have c1l := c1.lt; obtain ⟨b2q0, b2q1, b2q2⟩ := b2.c3; have c2 := b2.drew; have c2l := c2.lt; have hc := bdrew0 wq; go_region_with (first | (go_at_call 29; (with_reducible refine (HADD.out _ hc).mono ?_); rintro e w1 ⟨v1, rfl, hR1, hw1⟩; obtain ⟨g1, A1, l1, c1c, A1', l1', c1c', hv1⟩ := hR1.shape; subst hv1; have c1 := c1.below hw1 c1.lt; (try clear c1q0 c1q1 c1q2); obtain ⟨c1q0, c1q1, c1q2⟩ := c1.c3; (try clear c1l); have c1l := c1.lt; have c2 := c2.below hw1 c2.lt; (try clear c2q0 c2q1 c2q2); obtain ⟨c2q0, c2q1, c2q2⟩ := c2.c3; (try clear c2l); have c2l := c2.lt; have hc := bthen hc hw1; have o6 := OwnR.next ho6 hc; have f0 := OwnR.frozen o6 (c * 3); have f1 := OwnR.frozen o6 (c * 3 + 1); have f2 := OwnR.frozen o6 (c * 3 + 2)))
              all_goals
                go_wp2
                exact ⟨⟨c + 1, by omega, by go_num, by rw [← HSET.out]; exact OwnR.store o6 c ⟨g1, A1, l1, c1c, A1', l1', c1c'⟩ hR1, Exc.set3 (HX.out.trans (Exc.of hc)) _ _ _⟩, by simp [intOf]; omega⟩
            · obtain rfl : c = i := by omega
              have c1 : ¬ (c : Int) < (c : Int) := by omega
              rw [mixF_all] at ho6
              have HO := Lib.hid ho6
              have HBW := Lib.hid (HBY.out.trans (hx.below (B := x1.heap.size) HBY.out.size (by omega)))
              clear ho6 hx
              go_wp2
              exact ⟨⟨k + 1, by omega, by go_num, HO.out, HBW.out⟩, by simp [intOf]; omega⟩
        · obtain rfl : k = cnt := by omega
          have k1 : ¬ (k : Int) < (k : Int) := by omega
          rw [← mixF_zero (accT lv i k) (shareQ lv i) i] at ho6
          have HO := Lib.hid ho6
          have HBW := Lib.hid hbw
          clear ho6 hbw
          go_wp2_with fail
          go_loopw [10] (fun p wr => ∃ c : Nat, c ≤ i ∧ p = .int .i64 (c : Int) ∧ OwnR wr (.slice (some ⟨g6, 0, none⟩) i i) (mixF (accT lv i k) (shareQ lv i) i c) ∧ Below x1.heap.size x1 wr) (fun p _ => i - (intOf p).toNat)
          case atStart => exact ⟨0, by omega, rfl, HO.out, HBW.out⟩
          case round =>
            obtain ⟨c, hc0, rfl, ho6, hbw⟩ := hrel
            rename World => wq
            clear HO HBW
            by_cases hci : c < i
            · have c1 : (c : Int) < (i : Int) := by omega
              have hset := mixF_set (accT lv i k) (shareQ lv i) hci
              rw [← HMEAN.out c hci] at hset
              obtain ⟨xa, hxa⟩ : ∃ xa, accT lv i k c = xa := ⟨_, rfl⟩
              have hcur := mixF_at (accT lv i k) (shareQ lv i) hci
              rw [hxa] at hcur hset
              have s1 : QS 1000000 xa := by
                rw [← hxa]
                refine (accT_size HL.out hM1 i c k).mono ?_
                have := Nat.mul_le_mul (show k ≤ 24 by omega) (show M + M + 2 ≤ 2002 by omega)
                omega
              obtain ⟨kq, hkq⟩ : ∃ kq, ((k : Int) : Rat) = kq := ⟨_, rfl⟩
              have hk0 : kq ≠ 0 := by
                rw [← hkq]
                intro e
                have : (k : Int) = 0 := Rat.intCast_inj.1 (e.trans rfl)
                omega
              have hks : QS 8 kq := by
                rw [← hkq]
                exact ⟨blen_le _ _ (by show (k : Int).natAbs < 2 ^ 8; omega), blen_le _ _ (by show 1 < 2 ^ 8; omega)⟩
              rw [hkq] at hset
              obtain ⟨r1, b1, hi1⟩ := OwnR.at_ ho6 hcur
              have hof := fun w => ref_of (k : Int) w (by omega) (by omega)
              rw [hkq] at hof
              have hdiv : ∀ w' V, Below wq.heap.size wq w' → IsQ w' w'.heap.size V kq → Calls Tryz.prog 48 #[r1.v, V] w' (RetQ (xa / kq) w') := fun w' V hb hV => ref_divQ xa kq w'.heap.size _ _ w' ((hi1.next (Nat.le_refl _) hb).more hb.size) hV (Nat.le_refl _) (s1.mono (by omega)) (hks.mono (by omega)) hk0
              generalize xa / kq = xs at *
              obtain ⟨rg, rA, rl, rc, rA', rl', rc'⟩ := r1
              unfold RC.v at hdiv
              simp only [] at hdiv
              have HDIV := Lib.hid hdiv
              have HOF := Lib.hid hof
              have HSET := Lib.hid hset
              have HBW := Lib.hid hbw
              clear hdiv hof hset hcur hxa hkq hk0 hks s1 hi1 hbw
              go_upto_region 21 with fail
              obtain ⟨b1q0, b1q1, b1q2⟩ := b1.c3; have c1 := b1.drew; have c1l := c1.lt; have hc := bdrew0 wq; go_region_with (first | (go_at_call 36; (with_reducible refine (HOF.out _).mono ?_); rintro e w1 ⟨v1, rfl, hR1, hw1⟩; obtain ⟨g1, A1, l1, c1c, A1', l1', c1c', hv1⟩ := hR1.shape; subst hv1; have c1 := c1.below hw1 c1.lt; (try clear c1q0 c1q1 c1q2); obtain ⟨c1q0, c1q1, c1q2⟩ := c1.c3; (try clear c1l); have c1l := c1.lt; have hc := bthen hc hw1) | (go_at_call 48; (with_reducible refine (HDIV.out _ _ hc hR1).mono ?_); rintro e w2 ⟨v2, rfl, hR2, hw2⟩; obtain ⟨g2, A2, l2, c2c, A2', l2', c2c', hv2⟩ := hR2.shape; subst hv2; have c1 := c1.below hw2 c1.lt; (try clear c1q0 c1q1 c1q2); obtain ⟨c1q0, c1q1, c1q2⟩ := c1.c3; (try clear c1l); have c1l := c1.lt; have hR1 := (hR1.next (Nat.le_refl _) hw2).more hw2.size; have hc := bthen hc hw2; have o6 := OwnR.next ho6 hc; have f0 := OwnR.frozen o6 (c * 3); have f1 := OwnR.frozen o6 (c * 3 + 1); have f2 := OwnR.frozen o6 (c * 3 + 2)))
              all_goals
                go_wp2
                exact ⟨⟨c + 1, by omega, by go_num, by rw [← HSET.out]; exact OwnR.store o6 c ⟨g2, A2, l2, c2c, A2', l2', c2c'⟩ hR2, mset3 (HBW.out.trans (hc.mono HBW.out.size)) (by omega) _ _ _⟩, by simp [intOf]; omega⟩
            · obtain rfl : c = i := by omega
              have c1 : ¬ (c : Int) < (c : Int) := by omega
              rw [mixF_all] at ho6
              have HO := Lib.hid (show OwnR wq (.slice (some ⟨g6, 0, none⟩) c c) (sharesQ lv c) from ho6)
              have HBW := Lib.hid hbw
              clear ho6 hbw
              go_wp2
              go_ret
              exact ⟨_, rfl, HO.out, fun b hb => by have e : g6 = b := by simpa [Value.ownBlock] using hb
                                                    have := HB1.out.size
                                                    omega, HB1.out.trans (HBW.out.mono HB1.out.size)⟩
end Go.Proofs.YtbjemjopcoajcaaGreatDoor

/-! The walk of abaculuslaw37.ShareTables. -/
namespace Go.Proofs.YtbjemjopcoajcaaGreatDoor
open Go.RowKit
set_option linter.unusedSimpArgs false
set_option linter.unusedVariables false

theorem Own.kept2 {α β : Type} {w w' : World} {e e' : TypeId} {f : α → Value} {f' : β → Value} {v u u' : Value} {l : List α} {l' : List β} (h : Own w e f v l) (ho : Own w e' f' u l') (hg : Grew w w' u u') (hne : e ≠ e') : Own w' e f v l := h.kept hg (own_apart h ho hne)
theorem setTo_have (t : Nat) (ht : t < 64) : ∀ n, n < 6 → setTo (haveL t n) n = t % 2 ^ n := by
  have h : ∀ n k, k ≤ n → k < 7 → n < 6 → setTo (haveL t n) k = t % 2 ^ k := by
    intro n k
    induction k with
    | zero => intro _ _ _; simp [setTo, Nat.mod_one]
    | succ k ih =>
      intro h1 h2 h3
      have e : (haveL t n).getD k false = bitOn t k := by
        unfold haveL
        rw [List.getD_eq_getElem?_getD, List.getElem?_map, List.getElem?_range (by omega)]
        rfl
      rw [setTo, e, ih (by omega) (by omega) h3, low_step t ht k (by omega)]
  exact fun n hn => h n n (Nat.le_refl _) (by omega) hn
theorem pow_odd : ∀ k, k < 5 → ∀ n, n < 11 → 2 ^ k + 1 = 2 ^ n → k = 0 := by decide
/-- whether the numbers up to here differ from each other and from x -/
def fineB (ol : List Nat) (x j : Nat) : Bool := decide ol.Nodup && !decide (x ∈ ol.take j)
theorem fineB_zero (ol : List Nat) (x : Nat) : fineB ol x 0 = decide ol.Nodup := by simp [fineB]
theorem fineB_succ {ol : List Nat} {x j c : Nat} (h : ol[j]? = some c) : fineB ol x (j + 1) = (fineB ol x j && decide (c ≠ x)) := by
  unfold fineB
  rw [List.take_add_one, h]
  by_cases h1 : ol.Nodup <;> by_cases h2 : x ∈ ol.take j <;> by_cases h3 : c = x <;> simp [h1, h2, h3]
  · exact fun e => h3 e.symm
theorem fineB_all {ol : List Nat} {x n : Nat} (h : ol.length = n) : fineB ol x n = decide (ol ++ [x]).Nodup := by
  unfold fineB
  rw [List.take_of_length_le (by omega)]
  by_cases h1 : ol.Nodup <;> by_cases h2 : x ∈ ol <;> simp [List.nodup_append, h1, h2]
  · exact fun a ha e => h2 (e ▸ ha)
set_option maxRecDepth 100000 in
set_option maxHeartbeats 8000000 in
theorem shareTables_walk (A1 A2 : Option Addr) (n1 c1 n2 c2 : Nat) (zl zo : List Int) (zn zd zs : Int) (w : World) (h1 : ReadsZ w w.heap.size A1 n1 zl) (h2 : ReadsZ w w.heap.size A2 n2 zo)
    (hn1 : n1 ≤ 9223372036854775807) (hn2 : n2 ≤ 9223372036854775807)
    (b0 : -9223372036854775808 ≤ zn) (b9 : zn ≤ 9223372036854775807) (d0 : -9223372036854775808 ≤ zd) (d9 : zd ≤ 9223372036854775807) (s0 : -9223372036854775808 ≤ zs) (s9 : zs ≤ 9223372036854775807) (hT : Tab w) (hF : TabF w) :
    Calls Tryz.prog 5 #[.slice A1 n1 c1, .slice A2 n2 c2, .int .i64 zn, .int .i64 zd, .int .i64 zs] w (Ret (.bool true) w) := by
  obtain ⟨kk, hkk⟩ : ∃ kk : Nat, zn % 4 = (kk : Int) := ⟨(zn % 4).toNat, by omega⟩
  obtain ⟨oo, hoo⟩ : ∃ oo : Nat, zd % 9 = (oo : Int) := ⟨(zd % 9).toNat, by omega⟩
  obtain ⟨n, hn⟩ : ∃ n, kk + 1 = n := ⟨_, rfl⟩
  obtain ⟨m, hm⟩ : ∃ m, tabM kk oo = m := ⟨_, rfl⟩
  have hn4 : n ≤ 4 := by omega
  have hn1' : 1 ≤ n := by omega
  have hp16 : 2 ^ n ≤ 16 := Nat.pow_le_pow_right (n := 2) (by omega) hn4
  have hmd : (oo = 8 ∧ m = 2 ^ n + 1) ∨ (oo ≠ 8 ∧ m = 2 ^ n) := by
    rw [← hm]
    unfold tabM
    rw [hn]
    by_cases h : oo = 8
    · exact .inl ⟨h, by rw [if_pos h]⟩
    · exact .inr ⟨h, by rw [if_neg h]; rfl⟩
  have hmb : m ≤ 17 := by rcases hmd with ⟨_, h⟩ | ⟨_, h⟩ <;> omega
  have hm0 : 1 ≤ m := by
    have := Nat.two_pow_pos n
    rcases hmd with ⟨_, h⟩ | ⟨_, h⟩ <;> omega
  obtain ⟨t, ht, hpt⟩ := pick_of zs 64 w s0 s9 (by omega) (by omega)
  have htab := law_table A1 n1 c1 _ zl zn zd kk oo w h1 (Nat.le_refl _) hn1 b0 b9 d0 d9 hkk hoo
  rw [hn, hm] at htab
  have HPT := Lib.hid hpt
  have HTAB := Lib.hid htab
  have HMD := Lib.hid hmd
  have HP16 := Lib.hid hp16
  have HT := Lib.hid hT
  have HF := Lib.hid hF
  have H2 := Lib.hid h2
  clear hpt htab hmd hm hkk hoo hn hp16 h1 h2 hT hF b0 b9 d0 d9 s0 s9
  go_enter Tryz.func5, Tryz.ntmps5
  go_wp2_with fail
  refine HTAB.out.mono ?_
  rintro e x1 ⟨v, rfl, ho1, hf1, hb1⟩
  obtain ⟨Av, dv, rfl, _, _⟩ := ho1.form
  obtain ⟨gv, rfl⟩ := OwnR.addr ho1 (by rw [rowOf_len]; omega)
  obtain ⟨lv, hlv⟩ : ∃ lv, rowOf zl m = lv := ⟨_, rfl⟩
  have hll : lv.length = m := by rw [← hlv, rowOf_len]
  have hls : ∀ x ∈ lv, QS 5 x := by rw [← hlv]; exact rowOf_size zl m
  rw [hlv] at ho1 ⊢
  have hrv := ho1.reads
  rw [hll] at hrv ho1 ⊢
  have RV := Lib.hid hrv
  have HV := Lib.hid ho1
  have HLL := Lib.hid hll
  have HLS := Lib.hid hls
  have HB1 := Lib.hid hb1
  clear HTAB ho1 hf1 hb1 hrv hll hls hlv
  go_wp2_with fail
  go_loopw [13, 14, 15, 16, 17] (fun vo vh vs vf p wr => ∃ (i : Nat) (ol : List Nat), i ≤ n ∧ p = .int .i64 (i : Int) ∧ ol.length = i ∧ (∀ c ∈ ol, c < n) ∧ vs = .int .i64 ((t % 2 ^ i : Nat) : Int) ∧ vf = .bool (decide ol.Nodup) ∧
      Own wr 3 iv vo ol ∧ (∀ b, vo.ownBlock = some b → x1.heap.size ≤ b) ∧ Own wr 4 bv vh (haveL t i) ∧ (∀ b, vh.ownBlock = some b → x1.heap.size ≤ b) ∧ Below x1.heap.size x1 wr) (fun _ _ _ _ p _ => n - (intOf p).toNat)
  case atStart => exact ⟨0, [], by omega, rfl, rfl, (fun c hc => by cases hc), by simp [Nat.mod_one], by simp, Own.nil_ _ _ _, (fun b h => by cases h), Own.nil_ _ _ _, (fun b h => by cases h), Below.refl _ _⟩
  case round =>
    obtain ⟨i, ol, hi, rfl, hol, hoc, rfl, rfl, howo, hfro, howh, hfrh, hbel⟩ := hrel
    rename World => wr
    obtain ⟨Ao, co, rfl, _, _⟩ := Own.form howo
    rw [hol] at howo hfro ⊢
    have hro := Own.reads howo
    rw [hol] at hro
    by_cases hin : i < n
    · have i1 : (i : Int) < (n : Int) := by omega
      have i2 : (i : Int) < 64 := by omega
      have hfz := fineB_zero ol
      generalize hfd : decide ol.Nodup = fd at *
      have HOL := Lib.hid hol
      have HOC := Lib.hid hoc
      have HO := Lib.hid howo
      have HFO := Lib.hid hfro
      have HH := Lib.hid howh
      have HFH := Lib.hid hfrh
      have HBL := Lib.hid hbel
      have HRO := Lib.hid hro
      have HFD := Lib.hid hfd
      have HFZ := Lib.hid hfz
      have hsv0 := low_step t ht i (by omega)
      have hll2 := low_lt t i
      have hpk : 2 ^ i ≤ 16 := Nat.pow_le_pow_right (n := 2) (by omega) (show i ≤ 4 by omega)
      have hb1 := bit_eq1 (k := t) (c := i) (by omega)
      have hor := or_walk (k := t % 2 ^ i) (c := i) (by omega) (by omega)
      have hpw := pow_wrap (k := i) (by omega)
      have HLS2 := Lib.hid hsv0
      generalize hsv : t % 2 ^ i = sv at *
      clear hol hoc howo hfro howh hfrh hbel hro hfz hfd hsv0 hll2 hsv
      go_upto_if 42 with fail
      go_cut [18] (fun p wc => ∃ x : Nat, x < n ∧ p = .int .i64 (x : Int) ∧ wc = wr)
      case first =>
        by_cases hi2 : i < n2
        · have k2 : (i : Int) < (n2 : Int) := by omega
          obtain ⟨ad, z, rfl, hz, hcell, hz0, hz1⟩ := ((H2.out.below HB1.out).below (HBL.out.mono HB1.out.size)).cell hi2
          obtain ⟨q, hq, hpq⟩ := pick_of z n wr hz0 hz1 (by omega) (by omega)
          have HPQ := Lib.hid hpq
          clear hpq hz
          go_wp2_with fail
          refine (HPQ.out wr).mono ?_
          rintro e w' ⟨rfl, rfl⟩
          go_wp2
          go_meet
          exact ⟨q, hq, rfl, rfl⟩
        · have k2 : ¬ (i : Int) < (n2 : Int) := by omega
          go_wp2
          go_meet
          exact ⟨i, hin, rfl, rfl⟩
      case rest =>
        obtain ⟨x, hxn, rfl, rfl⟩ := hcut
        clear HFZ
        have hfz : fineB ol x 0 = fd := by rw [fineB_zero, HFD.out]
        have HFZ := Lib.hid hfz
        clear hfz
        go_wp2_with fail
        go_loopw [16, 19] (fun vf p wq => ∃ j : Nat, j ≤ i ∧ p = .int .i64 (j : Int) ∧ vf = .bool (fineB ol x j) ∧ wq = wc) (fun _ p _ => i - (intOf p).toNat)
        case atStart => exact ⟨0, by omega, rfl, by rw [HFZ.out], rfl⟩
        case round =>
          obtain ⟨j, hj, rfl, rfl, rfl⟩ := hrel
          by_cases hji : j < i
          · have j1 : (j : Int) < (i : Int) := by omega
            obtain ⟨ad2, c, rfl, hbB, hoc, hcc⟩ := HRO.out.atf hji
            have hfs := fineB_succ (x := x) hoc
            generalize hfj : fineB ol x j = fj at *
            have HFS := Lib.hid hfs
            unfold iv at hcc
            clear hfs hfj hoc
            cases fj with
            | true =>
              by_cases hcx : c = x
              · have e1 : ((c : Int) == (x : Int)) = true := by simp; omega
                have e2 : ((c : Int) != (x : Int)) = false := by simp; omega
                have e3 : (c : Int) = (x : Int) := by omega
                have HCX := Lib.hid hcx
                clear hcx
                go_wp2
                exact ⟨⟨j + 1, by omega, by go_num, by rw [HFS.out, decide_eq_false (fun h => h HCX.out)]; rfl, trivial⟩, by simp [intOf]; omega⟩
              · have e1 : ((c : Int) == (x : Int)) = false := by simp; omega
                have e2 : ((c : Int) != (x : Int)) = true := by simp; omega
                have e3 : ¬ (c : Int) = (x : Int) := by omega
                have HCX := Lib.hid hcx
                go_wp2
                exact ⟨⟨j + 1, by omega, by go_num, by rw [HFS.out, decide_eq_true HCX.out]; rfl, trivial⟩, by simp [intOf]; omega⟩
            | false =>
              go_wp2
              exact ⟨⟨j + 1, by omega, by go_num, by rw [HFS.out]; rfl, trivial⟩, by simp [intOf]; omega⟩
          · obtain rfl : j = i := by omega
            have j1 : ¬ (j : Int) < (j : Int) := by omega
            obtain ⟨k9, hk9⟩ : ∃ k9, j + 1 = k9 := ⟨_, rfl⟩
            have k3 : (j : Int) < (k9 : Int) := by omega
            have HSC := Lib.hid (haveL_succ t j)
            rw [hk9] at HSC HLS2
            have HK9 := Lib.hid hk9
            obtain ⟨fq, hfq⟩ : ∃ fq, fineB ol x j = fq := ⟨_, rfl⟩
            have HFB := Lib.hid hfq
            rw [hfq]
            clear hk9 hfq
            cases hbit : bitOn t j with
            | true =>
              rw [hbit] at hb1 HSC HLS2
              clear hbit
              go_wp2_with (
                at_builtin
                refine app1 Tryz.eltInt rfl (.tmp 64) (.tmp 66) rfl _ _ ol x _ rfl rfl HO.out rfl rfl (by rw [HOL.out]; unfold maxLen; omega) (by rw [HOL.out]; omega) ?_
                intro v' w2 hown2 hgr
                have hbel2 := hgr.below HBL.out.size HFO.out
                have HFO2 := Lib.hid (hgr.fresh HBL.out.size HFO.out)
                have HO2 := Lib.hid hown2
                have HH2 := Lib.hid (Own.kept2 HH.out HO.out hgr (by decide))
                have HBL2 := Lib.hid (HBL.out.trans hbel2)
                clear hown2 hgr hbel2)
              refine (HPT.out w2).mono ?_
              rintro e w' ⟨rfl, rfl⟩
              go_wp2_with (
                at_builtin
                refine app1 Tryz.eltBool rfl (.tmp 68) (.tmp 76) rfl w2 _ (haveL t j) true _ rfl rfl HH2.out rfl rfl (by rw [haveL_len]; unfold maxLen; omega) (by rw [haveL_len]; omega) ?_
                intro v3 w3 hown3 hgr
                have hbel3 := hgr.below HBL2.out.size HFH.out
                have HFH3 := hgr.fresh HBL2.out.size HFH.out
                have HO3 := Lib.hid (Own.kept2 HO2.out HH2.out hgr (by decide))
                have HBL3 := Lib.hid (HBL2.out.trans hbel3)
                rw [← HSC.out] at hown3
                obtain ⟨A3, c3, rfl, _, _⟩ := Own.form hown3
                rw [haveL_len] at *
                obtain ⟨g3, rfl⟩ := Own.addr hown3 (by rw [haveL_len]; have := HK9.out; omega)
                have hc := Own.cellf (k := j) (x := true) (by rw [haveL_len]; exact hown3) (by rw [HSC.out, List.getElem?_append_right (by rw [haveL_len]; omega), haveL_len, Nat.sub_self]; rfl)
                have HH3 := Lib.hid hown3
                have HFH4 := Lib.hid HFH3
                clear hown3 hgr hbel3 HFH3)
              exact ⟨⟨k9, ol ++ [x], by have := HK9.out; omega, by rw [← HK9.out]; go_num, by rw [List.length_append, HOL.out, ← HK9.out]; rfl, fun c hc => by
                rcases List.mem_append.1 hc with h | h
                · exact HOC.out c h
                · rw [List.mem_singleton.1 h]; exact hxn, by rw [HLS2.out]; simp, by rw [← fineB_all HOL.out, HFB.out], HO3.out, HFO2.out, HH3.out, HFH4.out, HBL3.out⟩, by simp [intOf]; omega⟩
            | false =>
              rw [hbit] at hb1 HSC HLS2
              clear hbit
              go_wp2_with (
                at_builtin
                refine app1 Tryz.eltInt rfl (.tmp 64) (.tmp 66) rfl _ _ ol x _ rfl rfl HO.out rfl rfl (by rw [HOL.out]; unfold maxLen; omega) (by rw [HOL.out]; omega) ?_
                intro v' w2 hown2 hgr
                have hbel2 := hgr.below HBL.out.size HFO.out
                have HFO2 := Lib.hid (hgr.fresh HBL.out.size HFO.out)
                have HO2 := Lib.hid hown2
                have HH2 := Lib.hid (Own.kept2 HH.out HO.out hgr (by decide))
                have HBL2 := Lib.hid (HBL.out.trans hbel2)
                clear hown2 hgr hbel2)
              refine (HPT.out w2).mono ?_
              rintro e w' ⟨rfl, rfl⟩
              go_wp2_with (
                at_builtin
                refine app1 Tryz.eltBool rfl (.tmp 68) (.tmp 76) rfl w2 _ (haveL t j) false _ rfl rfl HH2.out rfl rfl (by rw [haveL_len]; unfold maxLen; omega) (by rw [haveL_len]; omega) ?_
                intro v3 w3 hown3 hgr
                have hbel3 := hgr.below HBL2.out.size HFH.out
                have HFH3 := hgr.fresh HBL2.out.size HFH.out
                have HO3 := Lib.hid (Own.kept2 HO2.out HH2.out hgr (by decide))
                have HBL3 := Lib.hid (HBL2.out.trans hbel3)
                rw [← HSC.out] at hown3
                obtain ⟨A3, c3, rfl, _, _⟩ := Own.form hown3
                rw [haveL_len] at *
                obtain ⟨g3, rfl⟩ := Own.addr hown3 (by rw [haveL_len]; have := HK9.out; omega)
                have hc := Own.cellf (k := j) (x := false) (by rw [haveL_len]; exact hown3) (by rw [HSC.out, List.getElem?_append_right (by rw [haveL_len]; omega), haveL_len, Nat.sub_self]; rfl)
                have HH3 := Lib.hid hown3
                have HFH4 := Lib.hid HFH3
                clear hown3 hgr hbel3 HFH3)
              exact ⟨⟨k9, ol ++ [x], by have := HK9.out; omega, by rw [← HK9.out]; go_num, by rw [List.length_append, HOL.out, ← HK9.out]; rfl, fun c hc => by
                rcases List.mem_append.1 hc with h | h
                · exact HOC.out c h
                · rw [List.mem_singleton.1 h]; exact hxn, by rw [HLS2.out]; simp, by rw [← fineB_all HOL.out, HFB.out], HO3.out, HFO2.out, HH3.out, HFH4.out, HBL3.out⟩, by simp [intOf]; omega⟩
    · obtain rfl : i = n := by omega
      have k1 : ¬ (i : Int) < (i : Int) := by omega
      obtain ⟨Ah, ch, rfl, _, _⟩ := Own.form howh
      rw [haveL_len] at howh hfrh ⊢
      have hrh := Own.reads howh
      rw [haveL_len] at hrh
      have hset := setTo_have t ht i (by omega)
      have hsl := low_lt t i
      have RVW := Lib.hid (RV.out.below hbel)
      have SXW := Lib.hid hbel.size
      have RO := Lib.hid hro
      have RH := Lib.hid hrh
      have HBW := Lib.hid (HB1.out.trans (hbel.mono HB1.out.size))
      have HXW := Lib.hid hbel
      have HOL := Lib.hid hol
      have HOC := Lib.hid hoc
      have HSET := Lib.hid hset
      have HSL := Lib.hid hsl
      generalize hsv : t % 2 ^ i = sv at *
      generalize hfd : decide ol.Nodup = fd at *
      have HFD := Lib.hid hfd
      clear hol hoc howo hfro howh hfrh hbel hro hrh hset hsl hsv hfd HPT H2
      rcases HMD.out with ⟨h8, hmm⟩ | ⟨h8, hmm⟩
      · have hcn : ∀ n, 1 ≤ n → n ≤ 10 → m ≠ 2 ^ n := fun n q1 q2 e => by
          rw [hmm] at e
          have := pow_odd i (by omega) n (by omega) e
          omega
        have HCN := Lib.hid hcn
        clear hcn hmm h8
        go_wp2_with fail
        refine (hand_inRow _ m dv _ lv wr (RVW.out.below ((Below.refl wr.heap.size wr).mono SXW.out)) (Nat.le_trans SXW.out (Below.refl wr.heap.size wr).size) (by omega) (fun x hx => (HLS.out x hx).mono (by omega)) (HT.out.next (bthen HBW.out (Below.refl wr.heap.size wr)))).mono ?_
        rintro e y1 ⟨u, rfl, hq, hg, hb1⟩
        rw [List.take_of_length_le (by have := HLL.out; omega)] at hq
        obtain ⟨B1, e1, rfl, _, _⟩ := OwnW.form hq
        have hq1 := OwnW.reads hq
        rw [HLL.out] at hq1 ⊢
        have R1 := Lib.hid hq1
        have HC1 := Lib.hid ((Below.refl wr.heap.size wr).trans (hb1.mono (Below.refl wr.heap.size wr).size))
        clear hq hq1 hg hb1
        go_wp2_with fail
        refine (share_shares_no B1 m e1 y1 HCN.out).mono ?_
        rintro e w' ⟨rfl, rfl⟩
        go_wp2_with fail
        refine (hand_inRow _ m dv _ lv y1 (RVW.out.below (HC1.out.mono SXW.out)) (Nat.le_trans SXW.out HC1.out.size) (by omega) (fun x hx => (HLS.out x hx).mono (by omega)) (HT.out.next (bthen HBW.out HC1.out))).mono ?_
        rintro e y2 ⟨u, rfl, hq, hg, hb2⟩
        rw [List.take_of_length_le (by have := HLL.out; omega)] at hq
        obtain ⟨B2, e2, rfl, _, _⟩ := OwnW.form hq
        have hq2 := OwnW.reads hq
        rw [HLL.out] at hq2 ⊢
        have R2 := Lib.hid hq2
        have HC2 := Lib.hid (HC1.out.trans (hb2.mono HC1.out.size))
        clear hq hq2 hg hb2
        go_wp2_with fail
        refine (share_worth_no B2 Ah m e2 i ch 0 false y2 (fun w => share_columns_none B2 m e2 w HCN.out) (.inl rfl) (by omega) (by omega)).mono ?_
        rintro e y3 ⟨rfl, hb3⟩
        have e0 : qV 0 = .agg #[.bool false, .int .u64 0, .string ⟨#[]⟩, .int .u64 0, .string ⟨#[]⟩] := rfl
        rw [e0]
        have b22 := Blk.new y3 52 #[.bool false, .int .u64 0, .string ⟨#[]⟩, .int .u64 0, .string ⟨#[]⟩]
        have HC4 := Lib.hid (bthen (HC2.out.trans (hb3.mono HC2.out.size)) (balloc1 y3 (.cells #[.bool false, .int .u64 0, .string ⟨#[]⟩, .int .u64 0, .string ⟨#[]⟩] 52)))
        clear e0 hb3
        go_wp2_with fail
        generalize y3.alloc (.cells #[.bool false, .int .u64 0, .string ⟨#[]⟩, .int .u64 0, .string ⟨#[]⟩] 52) = y4 at *
        generalize y3.heap.size = g22 at *
        go_wp2_with fail
        refine (hand_inRow _ m dv _ lv y4 (RVW.out.below (HC4.out.mono SXW.out)) (Nat.le_trans SXW.out HC4.out.size) (by omega) (fun x hx => (HLS.out x hx).mono (by omega)) (HT.out.next (bthen HBW.out HC4.out))).mono ?_
        rintro e y5 ⟨u, rfl, hq, hg, hb5⟩
        rw [List.take_of_length_le (by have := HLL.out; omega)] at hq
        obtain ⟨B5, e5, rfl, _, _⟩ := OwnW.form hq
        have hq5 := OwnW.reads hq
        rw [HLL.out] at hq5 ⊢
        have R5 := Lib.hid hq5
        have HC5 := Lib.hid (HC4.out.trans (hb5.mono HC4.out.size))
        have b22 := b22.below hb5 b22.lt
        clear hq hq5 hg hb5
        go_wp2_with fail
        refine (share_turns_no B5 Ao m e5 i co 0 y5 (fun w => share_columns_none B5 m e5 w HCN.out)).mono ?_
        rintro e w' ⟨rfl, rfl⟩
        have HB5 := Lib.hid (bthen HBW.out HC5.out)
        go_wp2_with fail
        refine (share_known y5 (HT.out.next HB5.out) (HF.out.next HB5.out)).mono ?_
        rintro e y6 ⟨rfl, hb6⟩
        have b22 := b22.below hb6 b22.lt
        have HB6 := Lib.hid (bthen HB5.out hb6)
        clear hb6 HC1 HC2 HC4 HC5 HB5
        go_wp2_with fail
        refine (ref_columns_none m y6 HCN.out).mono ?_
        rintro e w' ⟨rfl, rfl⟩
        have n1' : ¬ (0 : Int) = (i : Int) := by omega
        have n2' : ((0 : Int) == (i : Int)) = false := by simp; omega
        have n3' : ((0 : Int) != (i : Int)) = true := by simp; omega
        have n4' : ¬ 0 = i := by omega
        have n5' : ¬ i = 0 := by omega
        have hsg : Calls Tryz.prog 22 #[.agg #[.bool false, .int .u64 0, .string ⟨#[]⟩, .int .u64 0, .string ⟨#[]⟩]] y6 (Ret (.int .i64 0) y6) := frac_sign 0 y6 (QS.zero _ (by omega))
        have HSG := Lib.hid hsg
        clear hsg
        obtain ⟨b22q0, b22q1, b22q2, b22q3, b22q4⟩ := b22.c5
        go_wp2_with fail
        refine HSG.out.mono ?_
        rintro e y7 ⟨rfl, hb7⟩
        have HB7 := Lib.hid (bthen HB6.out hb7)
        clear hb7 HSG b22 b22q0 b22q1 b22q2 b22q3 b22q4
        go_wp2
        go_ret
        exact ⟨rfl, HB7.out⟩
      · have HM := Lib.hid hmm
        clear hmm h8
        go_wp2_with fail
        refine (hand_inRow _ m dv _ lv wr (RVW.out.below ((Below.refl wr.heap.size wr).mono SXW.out)) (Nat.le_trans SXW.out (Below.refl wr.heap.size wr).size) (by omega) (fun x hx => (HLS.out x hx).mono (by omega)) (HT.out.next (bthen HBW.out (Below.refl wr.heap.size wr)))).mono ?_
        rintro e y1 ⟨u, rfl, hq, hg, hb1⟩
        rw [List.take_of_length_le (by have := HLL.out; omega)] at hq
        obtain ⟨B1, e1, rfl, _, _⟩ := OwnW.form hq
        have hq1 := OwnW.reads hq
        rw [HLL.out] at hq1 ⊢
        have R1 := Lib.hid hq1
        have HC1 := Lib.hid ((Below.refl wr.heap.size wr).trans (hb1.mono (Below.refl wr.heap.size wr).size))
        clear hq hq1 hg hb1
        go_wp2_with fail
        refine (share_shares B1 m e1 i _ 5 lv y1 R1.out (Nat.le_refl _) HM.out (by omega) (by omega) (by omega) (by omega) HLS.out (HT.out.next (bthen HBW.out HC1.out)) (HF.out.next (bthen HBW.out HC1.out))).mono ?_
        rintro e y2 ⟨u, rfl, hq, hg, hb2⟩
        obtain ⟨Ca, fa, rfl, _, _⟩ := OwnW.form hq
        rw [sharesQ_len] at hq ⊢
        have HA := Lib.hid hq
        have HC2 := Lib.hid (HC1.out.trans (hb2.mono HC1.out.size))
        clear hq hg hb2 R1
        go_wp2_with fail
        refine (hand_inRow _ m dv _ lv y2 (RVW.out.below (HC2.out.mono SXW.out)) (Nat.le_trans SXW.out HC2.out.size) (by omega) (fun x hx => (HLS.out x hx).mono (by omega)) (HT.out.next (bthen HBW.out HC2.out))).mono ?_
        rintro e y3 ⟨u, rfl, hq, hg, hb3⟩
        rw [List.take_of_length_le (by have := HLL.out; omega)] at hq
        obtain ⟨B3, e3, rfl, _, _⟩ := OwnW.form hq
        have hq3 := OwnW.reads hq
        rw [HLL.out] at hq3 ⊢
        have R3 := Lib.hid hq3
        have HC3 := Lib.hid (HC2.out.trans (hb3.mono HC2.out.size))
        have HA := Lib.hid (OwnW.next HA.out hb3)
        clear hq hq3 hg hb3
        go_wp2_with fail
        refine (share_worth B3 Ah m e3 i ch y3.heap.size lv (haveL t i) y3 R3.out ((RH.out.below HC3.out).more HC3.out.size) (Nat.le_refl _) HM.out (by omega) (by omega)).mono ?_
        rintro e y4 ⟨rfl, hb4⟩
        rw [HSET.out]
        obtain ⟨bq, hbq⟩ : ∃ bq, lv.getD sv 0 = bq := ⟨_, rfl⟩
        rw [hbq]
        unfold qV
        have b22 := Blk.new y4 52 #[.bool (decide (bq.num < 0)), .int .u64 (lo bq.num.natAbs : Int), .string (mo bq.num.natAbs), .int .u64 (lo ((qden bq)) : Int), .string (mo ((qden bq)))]
        have HA := Lib.hid (OwnW.next (OwnW.next HA.out hb4) (balloc1 y4 (.cells #[.bool (decide (bq.num < 0)), .int .u64 (lo bq.num.natAbs : Int), .string (mo bq.num.natAbs), .int .u64 (lo ((qden bq)) : Int), .string (mo ((qden bq)))] 52)))
        have HC4 := Lib.hid (bthen (HC3.out.trans (hb4.mono HC3.out.size)) (balloc1 y4 (.cells #[.bool (decide (bq.num < 0)), .int .u64 (lo bq.num.natAbs : Int), .string (mo bq.num.natAbs), .int .u64 (lo ((qden bq)) : Int), .string (mo ((qden bq)))] 52)))
        have HBQ := Lib.hid hbq
        clear hb4 hbq
        go_wp2_with fail
        generalize y4.alloc (.cells #[.bool (decide (bq.num < 0)), .int .u64 (lo bq.num.natAbs : Int), .string (mo bq.num.natAbs), .int .u64 (lo ((qden bq)) : Int), .string (mo ((qden bq)))] 52) = y5 at *
        generalize y4.heap.size = g22 at *
        go_wp2_with fail
        refine (hand_inRow _ m dv _ lv y5 (RVW.out.below (HC4.out.mono SXW.out)) (Nat.le_trans SXW.out HC4.out.size) (by omega) (fun x hx => (HLS.out x hx).mono (by omega)) (HT.out.next (bthen HBW.out HC4.out))).mono ?_
        rintro e y6 ⟨u, rfl, hq, hg, hb6⟩
        rw [List.take_of_length_le (by have := HLL.out; omega)] at hq
        obtain ⟨B6, e6, rfl, _, _⟩ := OwnW.form hq
        have hq6 := OwnW.reads hq
        rw [HLL.out] at hq6 ⊢
        have R6 := Lib.hid hq6
        have HC6 := Lib.hid (HC4.out.trans (hb6.mono HC4.out.size))
        have b22 := b22.below hb6 b22.lt
        have HA := Lib.hid (OwnW.next HA.out hb6)
        clear hq hq6 hg hb6
        go_wp2_with fail
        refine (share_turns B6 Ao m e6 i co y6.heap.size 5 lv ol y6 R6.out ((RO.out.below HC6.out).more HC6.out.size) (Nat.le_refl _) HM.out (by omega) (by omega) HOC.out (by omega) HLS.out (HT.out.next (bthen HBW.out HC6.out))).mono ?_
        rintro e y7 ⟨hb7, hres⟩
        have b22 := b22.below hb7 b22.lt
        have HA := Lib.hid (OwnW.next HA.out hb7)
        have HC7 := Lib.hid (HC6.out.trans (hb7.mono HC6.out.size))
        have HRES := Lib.hid hres
        clear hb7 hres HC1 HC2 HC3 HC4 HC6 R3 R6
        have hcase : (fd = true ∧ ∃ Ct ft, e = .returned (.tuple #[.slice Ct i ft, .int .i64 0]) ∧ OwnQ y7 (.slice Ct i ft) (turnsGo lv ol 0 (List.replicate i 0)) ∧ ol.Nodup) ∨ (fd = false ∧ e = .returned (.tuple #[.slice none 0 0, .int .i64 1])) := by
          rcases HRES.out with ⟨hnd, v, he, ho, _⟩ | ⟨hnd, he⟩
          · left
            obtain ⟨Ct, ft, hv, _, _⟩ := OwnW.form ho
            rw [turnsGo_len, List.length_replicate] at hv
            refine ⟨by rw [← HFD.out, decide_eq_true hnd], Ct, ft, by rw [he, hv], by rw [← hv]; exact ho, hnd⟩
          · right
            exact ⟨by rw [← HFD.out, decide_eq_false hnd], he⟩
        have HBY := Lib.hid (bthen HBW.out HC7.out)
        have hcol := fun w => ref_columns m i w HM.out (by omega) (by omega)
        have HCOL := Lib.hid hcol
        clear hcol HRES
        rcases hcase with ⟨hft, Ct, ft, he, htu, hnd⟩ | ⟨hff, he⟩
        · subst hft
          subst he
          go_wp2_with fail
          refine (share_known y7 (HT.out.next HBY.out) (HF.out.next HBY.out)).mono ?_
          rintro e y8 ⟨rfl, hb8⟩
          have b22 := b22.below hb8 b22.lt
          have HA8 := Lib.hid (OwnW.next HA.out hb8)
          have HC8 := Lib.hid (HC7.out.trans (hb8.mono HC7.out.size))
          have HB8 := Lib.hid (bthen HBY.out hb8)
          have HT8 := Lib.hid (OwnW.next htu hb8)
          clear hb8
          go_wp2_with fail
          refine (HCOL.out y8).mono ?_
          rintro e w' ⟨rfl, rfl⟩
          have nn1 : ((i : Int) == (i : Int)) = true := by simp
          have nn2 : ((i : Int) != (i : Int)) = false := by simp
          have hvx : OwnR y8 (.slice (some ⟨gv, 0, none⟩) m dv) lv := OwnR.next (OwnR.next HV.out HXW.out) HC8.out
          have hsm : sv < m := by rw [HM.out]; exact HSL.out
          have hsx : lv[sv]? = some bq := by
            rw [← HBQ.out, List.getD_eq_getElem?_getD, List.getElem?_eq_getElem (by have := HLL.out; omega)]
            rfl
          obtain ⟨r1, b1, hi1⟩ := OwnR.at_ hvx hsx
          have hbs : QS 5 bq := HLS.out bq (List.mem_of_getElem? hsx)
          have hrv := hvx.reads
          rw [HLL.out] at hrv
          have hsz : ∀ q ∈ sharesQ lv i, QS 1099511627776 q := fun q hq => (sharesQ_size (n := i) HLS.out (by omega) (by omega) q hq).mono (by omega)
          have hshr : ∀ w', Below y8.heap.size y8 w' → Calls Tryz.prog 23 #[.slice (some ⟨gv, 0, none⟩) m dv] w' (fun e w'' => ∃ v, e = .returned v ∧ (∃ A c, v = .slice A i c) ∧ OwnR w'' v (sharesQ lv i) ∧ Below w'.heap.size w' w'') := fun w' hb => by
            refine (ref_shares _ m dv i y8.heap.size 5 lv w' (hrv.below hb) hb.size HM.out (by omega) (by omega) (by omega) (by omega) HLS.out).mono ?_
            rintro e w'' ⟨v, he, ho, _, hb2⟩
            obtain ⟨A, c, hv, _, _⟩ := ho.form
            rw [sharesQ_len] at hv
            exact ⟨v, he, ⟨A, c, hv⟩, ho, hb2⟩
          have hsr : ∀ w' A c, Below y8.heap.size y8 w' → OwnR w' (.slice A i c) (sharesQ lv i) → Calls Tryz.prog 14 #[.slice Ca i fa, .slice A i c] w' (Ret (.bool true) w') := fun w' A c hb ho => by
            have q1 := OwnW.reads (OwnW.next HA8.out hb)
            have q2 := ho.reads
            rw [sharesQ_len] at q1 q2
            exact same_row Ca A i fa c _ _ (sharesQ lv i) w' q1 q2 (Nat.le_refl _) (Nat.le_refl _) (by omega) hsz
          have hsb : ∀ w', Below y8.heap.size y8 w' → Calls Tryz.prog 24 #[qV bq, r1.v] w' (Ret (.bool true) w') := fun w' hb => hand_same bq w'.heap.size _ w' ((hi1.next (Nat.le_refl _) hb).more hb.size) (Nat.le_refl _) (hbs.mono (by omega))
          obtain ⟨rg, rA, rl, rc, rA', rl', rc'⟩ := r1
          unfold RC.v at hsb
          unfold qV at hsb
          simp only [] at hsb
          have HSHR := Lib.hid hshr
          have HSR := Lib.hid hsr
          have HSB := Lib.hid hsb
          have HRV := Lib.hid hrv
          have p1 : (sv : Int) < (m : Int) := by omega
          clear hshr hsr hsb hrv hvx hsx hi1 hbs hsz
          go_upto_region 27 with fail
          go_cut [158] (fun p wc => p = .bool false ∧ Below y8.heap.size y8 wc)
          case first =>
            obtain ⟨b22q0, b22q1, b22q2, b22q3, b22q4⟩ := b22.c5; have c22 := b22.drew; have c22l := c22.lt; obtain ⟨b1q0, b1q1, b1q2⟩ := b1.c3; have c1 := b1.drew; have c1l := c1.lt; have hc := bdrew0 y8; go_region_held3 (fun w' => w'.cell? ⟨g22, 0, none⟩ = some (.bool (decide (bq.num < 0))) ∧ w'.cell? ⟨g22, 1, none⟩ = some (.int .u64 (lo bq.num.natAbs : Int)) ∧ w'.cell? ⟨g22, 2, none⟩ = some (.string (mo bq.num.natAbs)) ∧ w'.cell? ⟨g22, 3, none⟩ = some (.int .u64 (lo ((qden bq)) : Int)) ∧ w'.cell? ⟨g22, 4, none⟩ = some (.string (mo ((qden bq)))) ∧ w'.cell? ⟨gv, sv * 3, none⟩ = some (.bool rg) ∧ w'.cell? ⟨gv, sv * 3 + 1, none⟩ = some (.slice rA rl rc) ∧ w'.cell? ⟨gv, sv * 3 + 2, none⟩ = some (.slice rA' rl' rc')) (go_keep) (first | (go_at_call 23; (with_reducible refine (HSHR.out _ hc).mono ?_); rintro e w1 ⟨v1, rfl, ⟨A1, c1c, hv1⟩, hR1, hw1⟩; subst hv1; have c22 := c22.below hw1 c22.lt; (try clear c22q0 c22q1 c22q2 c22q3 c22q4); obtain ⟨c22q0, c22q1, c22q2, c22q3, c22q4⟩ := c22.c5; (try clear c22l); have c22l := c22.lt; have c1 := c1.below hw1 c1.lt; (try clear c1q0 c1q1 c1q2); obtain ⟨c1q0, c1q1, c1q2⟩ := c1.c3; (try clear c1l); have c1l := c1.lt; have hc := bthen hc hw1) | (go_at_call 14; (with_reducible refine (HSR.out _ _ _ hc hR1).mono ?_); rintro e w2 ⟨rfl, hw2⟩; have c22 := c22.below hw2 c22.lt; (try clear c22q0 c22q1 c22q2 c22q3 c22q4); obtain ⟨c22q0, c22q1, c22q2, c22q3, c22q4⟩ := c22.c5; (try clear c22l); have c22l := c22.lt; have c1 := c1.below hw2 c1.lt; (try clear c1q0 c1q1 c1q2); obtain ⟨c1q0, c1q1, c1q2⟩ := c1.c3; (try clear c1l); have c1l := c1.lt; have hc := bthen hc hw2) | (go_at_call 24; (with_reducible refine (HSB.out _ hc).mono ?_); rintro e w3 ⟨rfl, hw3⟩; have c22 := c22.below hw3 c22.lt; (try clear c22q0 c22q1 c22q2 c22q3 c22q4); obtain ⟨c22q0, c22q1, c22q2, c22q3, c22q4⟩ := c22.c5; (try clear c22l); have c22l := c22.lt; have c1 := c1.below hw3 c1.lt; (try clear c1q0 c1q1 c1q2); obtain ⟨c1q0, c1q1, c1q2⟩ := c1.c3; (try clear c1l); have c1l := c1.lt; have hc := bthen hc hw3))
            all_goals
              go_wp2
              go_meet
              exact ⟨rfl, hc⟩
          case rest =>
            obtain ⟨rfl, hb9⟩ := hcut
            rename World => y9
            clear b22 b1
            have htsz : ∀ q ∈ turnsGo lv ol 0 (List.replicate i 0), QS 1099511627776 q := fun q hq => (turns_size HLS.out (by omega) ol 0 (List.replicate i 0) (fun y hy => by rw [(List.mem_replicate.1 hy).2]; exact QS.zero _ (by omega)) q hq).mono (by omega)
            have hc9 := HC8.out.trans (hb9.mono HC8.out.size)
            have ro9 := (RO.out.below hc9).more hc9.size
            have rv9 : ReadsR y9 y9.heap.size (some ⟨gv, 0, none⟩) m lv := by
              obtain ⟨rl, q1, q2⟩ := HRV.out.below hb9
              exact ⟨rl, q1.more hb9.size, q2.mono fun V q h => h.more hb9.size⟩
            have HTR := Lib.hid (ref_turns _ Ao m dv i co y9.heap.size 5 lv ol y9 rv9 ro9 (Nat.le_refl _) HM.out (by omega) HOC.out hnd (by omega) HLS.out)
            have HT9 := Lib.hid (OwnW.next HT8.out hb9)
            have HB9 := Lib.hid (bthen HB8.out hb9)
            have HTSZ := Lib.hid htsz
            clear htsz hc9 ro9 rv9 hb9 hnd HT8
            go_wp2_with fail
            refine HTR.out.mono ?_
            rintro e y10 ⟨v, rfl, ho10, _, hb10⟩
            obtain ⟨A10, c10, rfl, _, _⟩ := ho10.form
            have q1 := OwnW.reads (OwnW.next HT9.out hb10)
            have q2 := ho10.reads
            have htl : (turnsGo lv ol 0 (List.replicate i 0)).length = i := by rw [turnsGo_len]; simp
            rw [htl] at q1 q2 ⊢
            have HSM := Lib.hid (same_row Ct A10 i ft c10 _ _ _ y10 q1 q2 (Nat.le_refl _) (Nat.le_refl _) (by omega) HTSZ.out)
            have HB10 := Lib.hid (bthen HB9.out hb10)
            clear q1 q2 htl ho10 hb10 HTR HT9
            go_wp2_with fail
            refine HSM.out.mono ?_
            rintro e y11 ⟨rfl, hb11⟩
            have HB11 := Lib.hid (bthen HB10.out hb11)
            clear hb11 HSM
            go_wp2
            go_ret
            exact ⟨rfl, HB11.out⟩
        · subst hff
          subst he
          go_wp2_with fail
          refine (share_known y7 (HT.out.next HBY.out) (HF.out.next HBY.out)).mono ?_
          rintro e y8 ⟨rfl, hb8⟩
          have b22 := b22.below hb8 b22.lt
          have HA8 := Lib.hid (OwnW.next HA.out hb8)
          have HC8 := Lib.hid (HC7.out.trans (hb8.mono HC7.out.size))
          have HB8 := Lib.hid (bthen HBY.out hb8)
          clear hb8
          go_wp2_with fail
          refine (HCOL.out y8).mono ?_
          rintro e w' ⟨rfl, rfl⟩
          have nn1 : ((i : Int) == (i : Int)) = true := by simp
          have nn2 : ((i : Int) != (i : Int)) = false := by simp
          have hvx : OwnR y8 (.slice (some ⟨gv, 0, none⟩) m dv) lv := OwnR.next (OwnR.next HV.out HXW.out) HC8.out
          have hsm : sv < m := by rw [HM.out]; exact HSL.out
          have hsx : lv[sv]? = some bq := by
            rw [← HBQ.out, List.getD_eq_getElem?_getD, List.getElem?_eq_getElem (by have := HLL.out; omega)]
            rfl
          obtain ⟨r1, b1, hi1⟩ := OwnR.at_ hvx hsx
          have hbs : QS 5 bq := HLS.out bq (List.mem_of_getElem? hsx)
          have hrv := hvx.reads
          rw [HLL.out] at hrv
          have hsz : ∀ q ∈ sharesQ lv i, QS 1099511627776 q := fun q hq => (sharesQ_size (n := i) HLS.out (by omega) (by omega) q hq).mono (by omega)
          have hshr : ∀ w', Below y8.heap.size y8 w' → Calls Tryz.prog 23 #[.slice (some ⟨gv, 0, none⟩) m dv] w' (fun e w'' => ∃ v, e = .returned v ∧ (∃ A c, v = .slice A i c) ∧ OwnR w'' v (sharesQ lv i) ∧ Below w'.heap.size w' w'') := fun w' hb => by
            refine (ref_shares _ m dv i y8.heap.size 5 lv w' (hrv.below hb) hb.size HM.out (by omega) (by omega) (by omega) (by omega) HLS.out).mono ?_
            rintro e w'' ⟨v, he, ho, _, hb2⟩
            obtain ⟨A, c, hv, _, _⟩ := ho.form
            rw [sharesQ_len] at hv
            exact ⟨v, he, ⟨A, c, hv⟩, ho, hb2⟩
          have hsr : ∀ w' A c, Below y8.heap.size y8 w' → OwnR w' (.slice A i c) (sharesQ lv i) → Calls Tryz.prog 14 #[.slice Ca i fa, .slice A i c] w' (Ret (.bool true) w') := fun w' A c hb ho => by
            have q1 := OwnW.reads (OwnW.next HA8.out hb)
            have q2 := ho.reads
            rw [sharesQ_len] at q1 q2
            exact same_row Ca A i fa c _ _ (sharesQ lv i) w' q1 q2 (Nat.le_refl _) (Nat.le_refl _) (by omega) hsz
          have hsb : ∀ w', Below y8.heap.size y8 w' → Calls Tryz.prog 24 #[qV bq, r1.v] w' (Ret (.bool true) w') := fun w' hb => hand_same bq w'.heap.size _ w' ((hi1.next (Nat.le_refl _) hb).more hb.size) (Nat.le_refl _) (hbs.mono (by omega))
          obtain ⟨rg, rA, rl, rc, rA', rl', rc'⟩ := r1
          unfold RC.v at hsb
          unfold qV at hsb
          simp only [] at hsb
          have HSHR := Lib.hid hshr
          have HSR := Lib.hid hsr
          have HSB := Lib.hid hsb
          have HRV := Lib.hid hrv
          have p1 : (sv : Int) < (m : Int) := by omega
          clear hshr hsr hsb hrv hvx hsx hi1 hbs hsz
          go_upto_region 27 with fail
          go_cut [158] (fun p wc => p = .bool false ∧ Below y8.heap.size y8 wc)
          case first =>
            obtain ⟨b22q0, b22q1, b22q2, b22q3, b22q4⟩ := b22.c5; have c22 := b22.drew; have c22l := c22.lt; obtain ⟨b1q0, b1q1, b1q2⟩ := b1.c3; have c1 := b1.drew; have c1l := c1.lt; have hc := bdrew0 y8; go_region_held3 (fun w' => w'.cell? ⟨g22, 0, none⟩ = some (.bool (decide (bq.num < 0))) ∧ w'.cell? ⟨g22, 1, none⟩ = some (.int .u64 (lo bq.num.natAbs : Int)) ∧ w'.cell? ⟨g22, 2, none⟩ = some (.string (mo bq.num.natAbs)) ∧ w'.cell? ⟨g22, 3, none⟩ = some (.int .u64 (lo ((qden bq)) : Int)) ∧ w'.cell? ⟨g22, 4, none⟩ = some (.string (mo ((qden bq)))) ∧ w'.cell? ⟨gv, sv * 3, none⟩ = some (.bool rg) ∧ w'.cell? ⟨gv, sv * 3 + 1, none⟩ = some (.slice rA rl rc) ∧ w'.cell? ⟨gv, sv * 3 + 2, none⟩ = some (.slice rA' rl' rc')) (go_keep) (first | (go_at_call 23; (with_reducible refine (HSHR.out _ hc).mono ?_); rintro e w1 ⟨v1, rfl, ⟨A1, c1c, hv1⟩, hR1, hw1⟩; subst hv1; have c22 := c22.below hw1 c22.lt; (try clear c22q0 c22q1 c22q2 c22q3 c22q4); obtain ⟨c22q0, c22q1, c22q2, c22q3, c22q4⟩ := c22.c5; (try clear c22l); have c22l := c22.lt; have c1 := c1.below hw1 c1.lt; (try clear c1q0 c1q1 c1q2); obtain ⟨c1q0, c1q1, c1q2⟩ := c1.c3; (try clear c1l); have c1l := c1.lt; have hc := bthen hc hw1) | (go_at_call 14; (with_reducible refine (HSR.out _ _ _ hc hR1).mono ?_); rintro e w2 ⟨rfl, hw2⟩; have c22 := c22.below hw2 c22.lt; (try clear c22q0 c22q1 c22q2 c22q3 c22q4); obtain ⟨c22q0, c22q1, c22q2, c22q3, c22q4⟩ := c22.c5; (try clear c22l); have c22l := c22.lt; have c1 := c1.below hw2 c1.lt; (try clear c1q0 c1q1 c1q2); obtain ⟨c1q0, c1q1, c1q2⟩ := c1.c3; (try clear c1l); have c1l := c1.lt; have hc := bthen hc hw2) | (go_at_call 24; (with_reducible refine (HSB.out _ hc).mono ?_); rintro e w3 ⟨rfl, hw3⟩; have c22 := c22.below hw3 c22.lt; (try clear c22q0 c22q1 c22q2 c22q3 c22q4); obtain ⟨c22q0, c22q1, c22q2, c22q3, c22q4⟩ := c22.c5; (try clear c22l); have c22l := c22.lt; have c1 := c1.below hw3 c1.lt; (try clear c1q0 c1q1 c1q2); obtain ⟨c1q0, c1q1, c1q2⟩ := c1.c3; (try clear c1l); have c1l := c1.lt; have hc := bthen hc hw3))
            all_goals
              go_wp2
              go_meet
              exact ⟨rfl, hc⟩
          case rest =>
            obtain ⟨rfl, hb9⟩ := hcut
            rename World => y9
            clear b22 b1
            have HB9 := Lib.hid (bthen HB8.out hb9)
            clear hb9
            go_wp2
            go_ret
            exact ⟨rfl, HB9.out⟩
end Go.Proofs.YtbjemjopcoajcaaGreatDoor
