import Derived.Test.YtecnjlcfoobepaaGreatDoorRefQ
namespace Go.Proofs.YtecnjlcfoobepaaGreatDoor
open Go.RowKit
set_option linter.unusedSimpArgs false
set_option linter.unusedVariables false
set_option maxRecDepth 100000 in
set_option maxHeartbeats 400000 in
theorem ref_neg (q : Rat) (B : Nat) (V : Value) (w : World) (h : IsQ w B V q) (hBB : B ≤ w.heap.size) : Calls Tryz.prog 128 #[V] w (RetQ (-q) w) := by
 obtain ⟨n0, A0, l0, c0c, A9, l9, c9c, rfl⟩ := h.shape
 have H := Lib.hid h
 have H9 := Lib.hid h.parts.2.2
 have E1 := Lib.hid (Rat.neg_num q)
 have E2 := Lib.hid (Rat.neg_den q)
 clear h
 have b0 := (Blk.new w  70 #[.bool n0, .slice A0 l0 c0c, .slice A9 l9 c9c]).alloc (.cells #[.bool false, .slice none 0 0, .slice none 0 0] 70); have b1 := Blk.new2 w (.cells #[.bool n0, .slice A0 l0 c0c, .slice A9 l9 c9c] 70) 70 #[.bool false, .slice none 0 0, .slice none 0 0]; have hB := balloc2 w (.cells #[.bool n0, .slice A0 l0 c0c, .slice A9 l9 c9c] 70) (.cells #[.bool false, .slice none 0 0, .slice none 0 0] 70); have hZ := Lib.hid (show ((w.alloc (.cells #[.bool n0, .slice A0 l0 c0c, .slice A9 l9 c9c] 70)).alloc (.cells #[.bool false, .slice none 0 0, .slice none 0 0] 70)).heap.size = w.heap.size + 1 + 1 from by simp)
 have ne1 : ¬ w.heap.size = w.heap.size + 1 := by omega
 have ne2 : ¬ w.heap.size + 1 = w.heap.size := by omega
 go_enter Tryz.func128, Tryz.ntmps128
 go_upto_region 1 with fail
 generalize ((w.alloc (.cells #[.bool n0, .slice A0 l0 c0c, .slice A9 l9 c9c] 70)).alloc (.cells #[.bool false, .slice none 0 0, .slice none 0 0] 70)) = W at *
 have hBW : B ≤ W.heap.size := Nat.le_trans hBB hB.size
 have hmk : ∀ w', Below W.heap.size W w' → Calls Tryz.prog 158 #[.agg #[.bool n0, .slice A0 l0 c0c]] w' (RetI (-q.num) w') := fun w' hb => ref_intNeg q.num B _ w' ((H.out.next hBB hB).next hBW hb).num (Nat.le_trans hBW hb.size)
 have HMK := Lib.hid hmk
 have G9 : Hid (∀ w', Below W.heap.size W w' → IsN w' w'.heap.size (.slice A9 l9 c9c) q.den) := Lib.hid fun w' hb => ((H9.out.next hBB hB).next hBW hb).more (Nat.le_trans hBW hb.size)
 clear hmk H H9
 obtain ⟨b0q0, b0q1, b0q2⟩ := b0.c3
 obtain ⟨b0q0, b0q1, b0q2⟩ := b0.c3; have c0 := b0.drew; have c0l := c0.lt; have c1 := b1.drew; have c1l := c1.lt; have hc := bdrew0 W; go_region_held3 (fun w' => w'.cell? ⟨w.heap.size, 0, none⟩ = some (.bool n0) ∧ w'.cell? ⟨w.heap.size, 1, none⟩ = some (.slice A0 l0 c0c) ∧ w'.cell? ⟨w.heap.size, 2, none⟩ = some (.slice A9 l9 c9c)) (go_keep) (first | (go_at_call 158; (with_reducible refine (HMK.out _ hc).mono ?_); rintro e w1 ⟨v1, rfl, hR1, hw1⟩; obtain ⟨g1, A1, l1, c1c, hv1⟩ := hR1.shape; subst hv1; have c0 := c0.below hw1 c0.lt; (try clear c0q0 c0q1 c0q2); obtain ⟨c0q0, c0q1, c0q2⟩ := c0.c3; (try clear c0l); have c0l := c0.lt; have c1 := c1.below hw1 c1.lt; (try clear c1l); have c1l := c1.lt; have hc := bthen hc hw1; obtain ⟨c1q0, c1q1, c1q2, c1f0, c1f1, c1f2, c1s0, c1s1, c1s2⟩ := c1.f3))
 all_goals
  go_wp2
  refine bodyPost_ret (v := .agg #[.bool g1, .slice A1 l1 c1c, .slice A9 l9 c9c]) (by simp [results, Tryz.results128, go_sem, c1s0, c1s1, c1s2]) rfl ?_
  refine retQ_done hB hc (IsQ.mk (q := -q) ?_ ?_) c1 (by omega)
  ·rw [E1.out]; exact hR1
  ·rw [E2.out]; exact G9.out _ hc
set_option maxRecDepth 100000 in
set_option maxHeartbeats 1000000 in
theorem ref_sub (a b : Rat) (B : Nat) (V1 V2 : Value) (w : World) (h1 : IsQ w B V1 a) (h2 : IsQ w B V2 b) (hBB : B ≤ w.heap.size) (ha : QS 68719476736 a) (hb : QS 68719476736 b) :
  Calls Tryz.prog 94 #[V1, V2] w (RetQ (a - b) w) := by
 rw [Rat.sub_eq_add_neg]
 obtain ⟨n0, A0, l0, c0c, A0', l0', c0c', rfl⟩ := h1.shape
 obtain ⟨n9, A9, l9, c9c, A9', l9', c9c', rfl⟩ := h2.shape
 have H1 := Lib.hid h1
 have H2 := Lib.hid h2
 have hbn := hb.neg
 clear h1 h2
 have b0 := ((Blk.new w  70 #[.bool n0, .slice A0 l0 c0c, .slice A0' l0' c0c']).alloc (.cells #[.bool n9, .slice A9 l9 c9c, .slice A9' l9' c9c'] 70)).alloc (.cells #[.bool false, .slice none 0 0, .slice none 0 0] 70); have b1 := (Blk.new2 w (.cells #[.bool n0, .slice A0 l0 c0c, .slice A0' l0' c0c'] 70) 70 #[.bool n9, .slice A9 l9 c9c, .slice A9' l9' c9c']).alloc (.cells #[.bool false, .slice none 0 0, .slice none 0 0] 70); have b2 := Blk.new3 w (.cells #[.bool n0, .slice A0 l0 c0c, .slice A0' l0' c0c'] 70) (.cells #[.bool n9, .slice A9 l9 c9c, .slice A9' l9' c9c'] 70) 70 #[.bool false, .slice none 0 0, .slice none 0 0]; have hB := balloc3 w (.cells #[.bool n0, .slice A0 l0 c0c, .slice A0' l0' c0c'] 70) (.cells #[.bool n9, .slice A9 l9 c9c, .slice A9' l9' c9c'] 70) (.cells #[.bool false, .slice none 0 0, .slice none 0 0] 70); have hZ := Lib.hid (show (((w.alloc (.cells #[.bool n0, .slice A0 l0 c0c, .slice A0' l0' c0c'] 70)).alloc (.cells #[.bool n9, .slice A9 l9 c9c, .slice A9' l9' c9c'] 70)).alloc (.cells #[.bool false, .slice none 0 0, .slice none 0 0] 70)).heap.size = w.heap.size + 1 + 1 + 1 from by simp)
 have ne1 : ¬ w.heap.size = w.heap.size + 1 + 1 := by omega
 have ne2 : ¬ w.heap.size + 1 = w.heap.size + 1 + 1 := by omega
 have ne3 : ¬ w.heap.size + 1 + 1 = w.heap.size := by omega
 have ne4 : ¬ w.heap.size + 1 + 1 = w.heap.size + 1 := by omega
 go_enter Tryz.func94, Tryz.ntmps94
 go_upto_region 1 with fail
 generalize (((w.alloc (.cells #[.bool n0, .slice A0 l0 c0c, .slice A0' l0' c0c'] 70)).alloc (.cells #[.bool n9, .slice A9 l9 c9c, .slice A9' l9' c9c'] 70)).alloc (.cells #[.bool false, .slice none 0 0, .slice none 0 0] 70)) = W at *
 have hBW : B ≤ W.heap.size := Nat.le_trans hBB hB.size
 have G1 : Hid (∀ w', Below W.heap.size W w' → IsQ w' w'.heap.size (.agg #[.bool n0, .slice A0 l0 c0c, .slice A0' l0' c0c']) a) := Lib.hid fun w' hb => ((H1.out.next hBB hB).next hBW hb).more (Nat.le_trans hBW hb.size)
 have G2 : Hid (∀ w', Below W.heap.size W w' → IsQ w' w'.heap.size (.agg #[.bool n9, .slice A9 l9 c9c, .slice A9' l9' c9c']) b) := Lib.hid fun w' hb => ((H2.out.next hBB hB).next hBW hb).more (Nat.le_trans hBW hb.size)
 have HA := Lib.hid ha
 have HB := Lib.hid hbn
 clear H1 H2 ha hb hbn
 obtain ⟨b0q0, b0q1, b0q2⟩ := b0.c3; obtain ⟨b1q0, b1q1, b1q2⟩ := b1.c3
 obtain ⟨b0q0, b0q1, b0q2⟩ := b0.c3; have c0 := b0.drew; have c0l := c0.lt; obtain ⟨b1q0, b1q1, b1q2⟩ := b1.c3; have c1 := b1.drew; have c1l := c1.lt; have c2 := b2.drew; have c2l := c2.lt; have hc := bdrew0 W; go_region_held3 (fun w' => w'.cell? ⟨w.heap.size, 0, none⟩ = some (.bool n0) ∧ w'.cell? ⟨w.heap.size, 1, none⟩ = some (.slice A0 l0 c0c) ∧ w'.cell? ⟨w.heap.size, 2, none⟩ = some (.slice A0' l0' c0c') ∧ w'.cell? ⟨w.heap.size + 1, 0, none⟩ = some (.bool n9) ∧ w'.cell? ⟨w.heap.size + 1, 1, none⟩ = some (.slice A9 l9 c9c) ∧ w'.cell? ⟨w.heap.size + 1, 2, none⟩ = some (.slice A9' l9' c9c')) (go_keep) (first | (go_at_call 128; (with_reducible refine (ref_neg b _ _ _ (G2.out _ hc) (Nat.le_refl _)).mono ?_); rintro e w1 ⟨v1, rfl, hR1, hw1⟩; obtain ⟨g1, A1, l1, c1c, A1', l1', c1c', hv1⟩ := hR1.shape; subst hv1; have c0 := c0.below hw1 c0.lt; (try clear c0q0 c0q1 c0q2); obtain ⟨c0q0, c0q1, c0q2⟩ := c0.c3; (try clear c0l); have c0l := c0.lt; have c1 := c1.below hw1 c1.lt; (try clear c1q0 c1q1 c1q2); obtain ⟨c1q0, c1q1, c1q2⟩ := c1.c3; (try clear c1l); have c1l := c1.lt; have c2 := c2.below hw1 c2.lt; (try clear c2l); have c2l := c2.lt; have hc := bthen hc hw1) | (go_at_call 95; (with_reducible refine (ref_add a (-b) _ _ _ _ (G1.out _ hc) hR1 (Nat.le_refl _) HA.out HB.out).mono ?_); rintro e w2 ⟨v2, rfl, hR2, hw2⟩; obtain ⟨g2, A2, l2, c2c, A2', l2', c2c', hv2⟩ := hR2.shape; subst hv2; have c0 := c0.below hw2 c0.lt; (try clear c0q0 c0q1 c0q2); obtain ⟨c0q0, c0q1, c0q2⟩ := c0.c3; (try clear c0l); have c0l := c0.lt; have c1 := c1.below hw2 c1.lt; (try clear c1q0 c1q1 c1q2); obtain ⟨c1q0, c1q1, c1q2⟩ := c1.c3; (try clear c1l); have c1l := c1.lt; have c2 := c2.below hw2 c2.lt; (try clear c2l); have c2l := c2.lt; have hR1 := (hR1.next (Nat.le_refl _) hw2).more hw2.size; have hc := bthen hc hw2; obtain ⟨c2q0, c2q1, c2q2, c2f0, c2f1, c2f2, c2s0, c2s1, c2s2⟩ := c2.f3))
 all_goals
  go_wp2
  refine bodyPost_ret (v := .agg #[.bool g2, .slice A2 l2 c2c, .slice A2' l2' c2c']) (by simp [results, Tryz.results94, go_sem, c2s0, c2s1, c2s2]) rfl ?_
  exact retQ_done hB hc hR2 c2 (by omega)
end Go.Proofs.YtecnjlcfoobepaaGreatDoor
