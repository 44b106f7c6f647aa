import Derived.Test.YtecnjlcfoobepaaGreatDoorRefQ
import Derived.Test.YtecnjlcfoobepaaGreatDoorHand
namespace Go.Proofs.YtecnjlcfoobepaaGreatDoor
set_option maxRecDepth 100000
set_option maxHeartbeats 1000000
open Go.RowKit
set_option linter.unusedSimpArgs false
set_option linter.unusedVariables false
theorem hand_outNat (a : Nat) (w : World) (ha : blen a <= 1099511627776) : Calls Tryz.prog 106 #[natV a] w (RetN a w) := by
 have hbt := fun w => nat_bytes a w (by omega)
 unfold natV at hbt ⊢
 have HBT := lh hbt
 clear hbt
 have hln : nbytes a <= 1099511627776 := by unfold nbytes; omega
 have b0 := Blk.new w  52 #[.int .u64 (lo a : Int), .string (mo a)]; have hB := balloc1 w (.cells #[.int .u64 (lo a : Int), .string (mo a)] 52); have hZ := lh (show (w.alloc (.cells #[.int .u64 (lo a : Int), .string (mo a)] 52)).heap.size = w.heap.size + 1 from by simp)
 go_enter Tryz.func106, Tryz.ntmps106
 go_wp2_with fail
 generalize (w.alloc (.cells #[.int .u64 (lo a : Int), .string (mo a)] 52)) = W at *
 refine (HBT.out W).mono ?_
 rintro e w1 ⟨v1, rfl, ho1, hw1, _⟩
 obtain ⟨A, c, hv, hc1, hc2⟩ := ho1.form
 rw [hv] at ho1
 rw [hv]
 have hr := ho1.reads
 have hl := natB_len a
 rw [hl] at hr
 rw [hl]
 have hfr := ref_from A (nbytes a) c w1.heap.size (natB a) w1 hr zd hln
 rw [beVal_natB] at hfr
 have HF := lh hfr
 clear hv hl hr ho1 hfr
 go_wp2_with fail
 refine HF.out.mono ?_
 rintro e w2 ⟨v2, rfl, hR2, hw2⟩
 obtain ⟨A2, l2, c2c, rfl⟩ := hR2.form
 go_wp2
 go_ret
 exact ⟨_, rfl, hR2, bthen (bthen hB hw1) hw2⟩
theorem hand_outInt (z : Int) (w : World) (hz : blen z.natAbs <= 1099511627776) : Calls Tryz.prog 104 #[intV z] w (RetI z w) := by
 have hsg := fun w => whole_sign z w (by omega)
 have hab := fun w => whole_abs z w
 have hon := fun w => hand_outNat z.natAbs w hz
 have hmk : ∀ w' V, IsN w' w'.heap.size V z.natAbs -> Calls Tryz.prog 115 #[.bool (decide (z < 0)), V] w' (RetI z w') := fun w' V hv => by
  have h := ref_mkI (decide (z < 0)) z.natAbs _ V w' hv zd
  have e : signed (decide (z < 0)) z.natAbs = z := by
   unfold signed
   by_cases h : z < 0
   ·rw [decide_eq_true h]; simp; omega
   rw [decide_eq_false h]; simp; omega
  rw [e] at h
  exact h
 have hdc : decide (z < 0) = decide (z.sign < 0) := by
  by_cases h : z < 0
  ·rw [decide_eq_true h, Int.sign_eq_neg_one_of_neg h]; rfl
  have := Int.sign_nonneg_iff.2 (Int.not_lt.1 h)
  rw [decide_eq_false h, decide_eq_false (by omega)]
 rw [hdc] at hmk
 clear hdc
 unfold intV at hsg hab ⊢
 unfold natV at hab hon
 generalize z.sign = sg at *
 generalize decide (z < 0) = ng at *
 have HSG := lh hsg
 have HAB := lh hab
 have HON := lh hon
 have HMK := lh hmk
 clear hsg hab hon hmk
 have b0 := (Blk.new w  54 #[.bool ng, .int .u64 (lo z.natAbs : Int), .string (mo z.natAbs)]).alloc (.cells #[.bool false, .slice none 0 0] 68); have b1 := Blk.new2 w (.cells #[.bool ng, .int .u64 (lo z.natAbs : Int), .string (mo z.natAbs)] 54) 68 #[.bool false, .slice none 0 0]; have hB := balloc2 w (.cells #[.bool ng, .int .u64 (lo z.natAbs : Int), .string (mo z.natAbs)] 54) (.cells #[.bool false, .slice none 0 0] 68); have hZ := lh (show ((w.alloc (.cells #[.bool ng, .int .u64 (lo z.natAbs : Int), .string (mo z.natAbs)] 54)).alloc (.cells #[.bool false, .slice none 0 0] 68)).heap.size = w.heap.size + 1 + 1 from by simp)
 have ne1 : ¬ w.heap.size = w.heap.size + 1 := by omega
 have ne2 : ¬ w.heap.size + 1 = w.heap.size := by omega
 go_enter Tryz.func104, Tryz.ntmps104
 go_upto_region 1 with fail
 generalize ((w.alloc (.cells #[.bool ng, .int .u64 (lo z.natAbs : Int), .string (mo z.natAbs)] 54)).alloc (.cells #[.bool false, .slice none 0 0] 68)) = W at *
 obtain ⟨b0q0, b0q1, b0q2⟩ := b0.c3; have c0 := b0.drew; have c0l := c0.lt; have c1 := b1.drew; have c1l := c1.lt; have hc := bdrew0 W; go_region_held3 (fun w' => w'.cell? ⟨w.heap.size, 0, none⟩ = some (.bool ng) /\ w'.cell? ⟨w.heap.size, 1, none⟩ = some (.int .u64 (lo z.natAbs : Int)) /\ w'.cell? ⟨w.heap.size, 2, none⟩ = some (.string (mo z.natAbs))) (go_keep) (first | (go_at_call 88; (with_reducible refine (HSG.out _).mono ?_); rintro e w1 ⟨rfl, hw1⟩; have c0 := c0.below hw1 c0.lt; (try clear c0q0 c0q1 c0q2); obtain ⟨c0q0, c0q1, c0q2⟩ := c0.c3; (try clear c0l); have c0l := c0.lt; have c1 := c1.below hw1 c1.lt; (try clear c1l); have c1l := c1.lt; have hc := bthen hc hw1) | (go_at_call 110; (with_reducible refine (HAB.out _).mono ?_); rintro e w2 ⟨rfl, hw2⟩; have c0 := c0.below hw2 c0.lt; (try clear c0q0 c0q1 c0q2); obtain ⟨c0q0, c0q1, c0q2⟩ := c0.c3; (try clear c0l); have c0l := c0.lt; have c1 := c1.below hw2 c1.lt; (try clear c1l); have c1l := c1.lt; have hc := bthen hc hw2) | (go_at_call 106; (with_reducible refine (HON.out _).mono ?_); rintro e w3 ⟨v3, rfl, hR3, hw3⟩; obtain ⟨A3, l3, c3c, hv3⟩ := hR3.form; subst hv3; have c0 := c0.below hw3 c0.lt; (try clear c0q0 c0q1 c0q2); obtain ⟨c0q0, c0q1, c0q2⟩ := c0.c3; (try clear c0l); have c0l := c0.lt; have c1 := c1.below hw3 c1.lt; (try clear c1l); have c1l := c1.lt; have hc := bthen hc hw3) | (go_at_call 115; (with_reducible refine (HMK.out _ _ hR3).mono ?_); rintro e w4 ⟨v4, rfl, hR4, hw4⟩; obtain ⟨g4, A4, l4, c4c, hv4⟩ := hR4.shape; subst hv4; have c0 := c0.below hw4 c0.lt; (try clear c0q0 c0q1 c0q2); obtain ⟨c0q0, c0q1, c0q2⟩ := c0.c3; (try clear c0l); have c0l := c0.lt; have c1 := c1.below hw4 c1.lt; (try clear c1l); have c1l := c1.lt; have hR3 := (hR3.next zd hw4).more hw4.size; have hc := bthen hc hw4; obtain ⟨c1q0, c1q1, c1f0, c1f1, c1s0, c1s1⟩ := c1.f2))
 all_goals
  go_wp2
  refine bodyPost_ret (v := .agg #[.bool g4, .slice A4 l4 c4c]) (by simp [results, Tryz.results104, go_sem, c1s0, c1s1]) rfl ?_
  exact retI_done hB hc hR4 c1 (by omega)
theorem hand_out (q : Rat) (w : World) (hq : QS 1099511627776 q) : Calls Tryz.prog 68 #[qV q] w (RetQ q w) := by
 have hnum := fun w => frac_num q w
 have hden := fun w => frac_den q w hq
 have hoi := fun w => hand_outInt q.num w hq.1
 have hon := fun w => hand_outNat q.den w hq.2
 unfold qV at hnum hden ⊢
 unfold intV at hnum hoi
 unfold natV at hden hon
 clear hq
 generalize decide (q.num < 0) = nq at *
 have HNUM := lh hnum
 have HDEN := lh hden
 have HOI := lh hoi
 have HON := lh hon
 clear hnum hden hoi hon
 have b0 := (Blk.new w  56 #[.bool nq, .int .u64 (lo q.num.natAbs : Int), .string (mo q.num.natAbs), .int .u64 (lo (qden q) : Int), .string (mo (qden q))]).alloc (.cells #[.bool false, .slice none 0 0, .slice none 0 0] 70); have b1 := Blk.new2 w (.cells #[.bool nq, .int .u64 (lo q.num.natAbs : Int), .string (mo q.num.natAbs), .int .u64 (lo (qden q) : Int), .string (mo (qden q))] 56) 70 #[.bool false, .slice none 0 0, .slice none 0 0]; have hB := balloc2 w (.cells #[.bool nq, .int .u64 (lo q.num.natAbs : Int), .string (mo q.num.natAbs), .int .u64 (lo (qden q) : Int), .string (mo (qden q))] 56) (.cells #[.bool false, .slice none 0 0, .slice none 0 0] 70); have hZ := lh (show ((w.alloc (.cells #[.bool nq, .int .u64 (lo q.num.natAbs : Int), .string (mo q.num.natAbs), .int .u64 (lo (qden q) : Int), .string (mo (qden q))] 56)).alloc (.cells #[.bool false, .slice none 0 0, .slice none 0 0] 70)).heap.size = w.heap.size + 1 + 1 from by simp)
 have ne1 : ¬ w.heap.size = w.heap.size + 1 := by omega
 have ne2 : ¬ w.heap.size + 1 = w.heap.size := by omega
 go_enter Tryz.func68, Tryz.ntmps68
 go_upto_region 1 with fail
 generalize ((w.alloc (.cells #[.bool nq, .int .u64 (lo q.num.natAbs : Int), .string (mo q.num.natAbs), .int .u64 (lo (qden q) : Int), .string (mo (qden q))] 56)).alloc (.cells #[.bool false, .slice none 0 0, .slice none 0 0] 70)) = W at *
 obtain ⟨b0q0, b0q1, b0q2, b0q3, b0q4⟩ := b0.c5; have c0 := b0.drew; have c0l := c0.lt; have c1 := b1.drew; have c1l := c1.lt; have hc := bdrew0 W; go_region_held3 (fun w' => w'.cell? ⟨w.heap.size, 0, none⟩ = some (.bool nq) /\ w'.cell? ⟨w.heap.size, 1, none⟩ = some (.int .u64 (lo q.num.natAbs : Int)) /\ w'.cell? ⟨w.heap.size, 2, none⟩ = some (.string (mo q.num.natAbs)) /\ w'.cell? ⟨w.heap.size, 3, none⟩ = some (.int .u64 (lo (qden q) : Int)) /\ w'.cell? ⟨w.heap.size, 4, none⟩ = some (.string (mo (qden q)))) (go_keep) (first | (go_at_call 105; (with_reducible refine (HNUM.out _).mono ?_); rintro e w1 ⟨rfl, hw1⟩; have c0 := c0.below hw1 c0.lt; (try clear c0q0 c0q1 c0q2 c0q3 c0q4); obtain ⟨c0q0, c0q1, c0q2, c0q3, c0q4⟩ := c0.c5; (try clear c0l); have c0l := c0.lt; have c1 := c1.below hw1 c1.lt; (try clear c1l); have c1l := c1.lt; have hc := bthen hc hw1) | (go_at_call 104; (with_reducible refine (HOI.out _).mono ?_); rintro e w2 ⟨v2, rfl, hR2, hw2⟩; obtain ⟨g2, A2, l2, c2c, hv2⟩ := hR2.shape; subst hv2; have c0 := c0.below hw2 c0.lt; (try clear c0q0 c0q1 c0q2 c0q3 c0q4); obtain ⟨c0q0, c0q1, c0q2, c0q3, c0q4⟩ := c0.c5; (try clear c0l); have c0l := c0.lt; have c1 := c1.below hw2 c1.lt; (try clear c1l); have c1l := c1.lt; have hc := bthen hc hw2) | (go_at_call 67; (with_reducible refine (HDEN.out _).mono ?_); rintro e w3 ⟨rfl, hw3⟩; have c0 := c0.below hw3 c0.lt; (try clear c0q0 c0q1 c0q2 c0q3 c0q4); obtain ⟨c0q0, c0q1, c0q2, c0q3, c0q4⟩ := c0.c5; (try clear c0l); have c0l := c0.lt; have c1 := c1.below hw3 c1.lt; (try clear c1l); have c1l := c1.lt; have hR2 := (hR2.next zd hw3).more hw3.size; have hc := bthen hc hw3) | (go_at_call 106; (with_reducible refine (HON.out _).mono ?_); rintro e w4 ⟨v4, rfl, hR4, hw4⟩; obtain ⟨A4, l4, c4c, hv4⟩ := hR4.form; subst hv4; have c0 := c0.below hw4 c0.lt; (try clear c0q0 c0q1 c0q2 c0q3 c0q4); obtain ⟨c0q0, c0q1, c0q2, c0q3, c0q4⟩ := c0.c5; (try clear c0l); have c0l := c0.lt; have c1 := c1.below hw4 c1.lt; (try clear c1l); have c1l := c1.lt; have hR2 := (hR2.next zd hw4).more hw4.size; have hc := bthen hc hw4; obtain ⟨c1q0, c1q1, c1q2, c1f0, c1f1, c1f2, c1s0, c1s1, c1s2⟩ := c1.f3))
 all_goals
  go_wp2
  refine bodyPost_ret (v := .agg #[.bool g2, .slice A2 l2 c2c, .slice A4 l4 c4c]) (by simp [results, Tryz.results68, go_sem, c1s0, c1s1, c1s2]) rfl ?_
  exact retQ_done hB hc (IsQ.mk (q := q) hR2 hR4) c1 (by omega)
theorem hand_same (q : Rat) (B : Nat) (V : Value) (w : World) (h : IsQ w B V q) (hBB : B <= w.heap.size) (hq : QS 1099511627776 q) : Calls Tryz.prog 32 #[qV q, V] w (Ret (.bool true) w) := by
 obtain ⟨n0, A0, l0, c0c, A9, l9, c9c, rfl⟩ := h.shape
 have hn0 := h.parts.1
 have hl9 : l9 = (limbs q.den).length := by
  obtain ⟨A', c', h1, _⟩ := h.parts.2.2
  injection h1
 have hd0 := limbs_nil q.den
 rw [<- hl9] at hd0
 have hl9' : ((l9 : Int) == 0) = false := by
  have := q.den_nz
  simp
  intro e
  exact this (hd0.1 (by omega))
 have H := lh h
 have hot := fun w => hand_out q w hq
 have s1 : (limbs q.num.natAbs).length <= 34359738368 := limbs_len_b _ hq.1
 have s2 : (limbs q.den).length <= 34359738368 := limbs_len_b _ hq.2
 unfold qV at hot ⊢
 rw [hn0] at hot ⊢
 have HOT := lh hot
 clear h hot hq hl9 hd0
 have b0 := (Blk.new w  56 #[.bool n0, .int .u64 (lo q.num.natAbs : Int), .string (mo q.num.natAbs), .int .u64 (lo (qden q) : Int), .string (mo (qden q))]).alloc (.cells #[.bool n0, .slice A0 l0 c0c, .slice A9 l9 c9c] 70); have b1 := Blk.new2 w (.cells #[.bool n0, .int .u64 (lo q.num.natAbs : Int), .string (mo q.num.natAbs), .int .u64 (lo (qden q) : Int), .string (mo (qden q))] 56) 70 #[.bool n0, .slice A0 l0 c0c, .slice A9 l9 c9c]; have hB := balloc2 w (.cells #[.bool n0, .int .u64 (lo q.num.natAbs : Int), .string (mo q.num.natAbs), .int .u64 (lo (qden q) : Int), .string (mo (qden q))] 56) (.cells #[.bool n0, .slice A0 l0 c0c, .slice A9 l9 c9c] 70); have hZ := lh (show ((w.alloc (.cells #[.bool n0, .int .u64 (lo q.num.natAbs : Int), .string (mo q.num.natAbs), .int .u64 (lo (qden q) : Int), .string (mo (qden q))] 56)).alloc (.cells #[.bool n0, .slice A0 l0 c0c, .slice A9 l9 c9c] 70)).heap.size = w.heap.size + 1 + 1 from by simp)
 go_enter Tryz.func32, Tryz.ntmps32
 go_wp2_with fail
 generalize ((w.alloc (.cells #[.bool n0, .int .u64 (lo q.num.natAbs : Int), .string (mo q.num.natAbs), .int .u64 (lo (qden q) : Int), .string (mo (qden q))] 56)).alloc (.cells #[.bool n0, .slice A0 l0 c0c, .slice A9 l9 c9c] 70)) = W at *
 have h1 : IsQ W W.heap.size (.agg #[.bool n0, .slice A0 l0 c0c, .slice A9 l9 c9c]) q := (H.out.next hBB hB).more (nt hBB hB.size)
 clear H
 refine (HOT.out W).mono ?_
 rintro e w1 ⟨V1, rfl, hV1, hw1⟩
 obtain ⟨g1, A1, l1, c1c, A2, l2, c2c, rfl⟩ := hV1.shape
 have hg1 := hV1.parts.1
 rw [hn0] at hg1
 subst hg1
 have b1 := b1.below hw1 b1.lt
 have h1 := (h1.next zd hw1).more hw1.size
 have hB1 := bthen hB hw1
 have hlt1 := b1.lt
 have bt := Blk.new w1 70 #[.bool n0, .slice A1 l1 c1c, .slice A2 l2 c2c]
 have b1 := b1.alloc (.cells #[.bool n0, .slice A1 l1 c1c, .slice A2 l2 c2c] 70)
 have hal := balloc1 w1 (.cells #[.bool n0, .slice A1 l1 c1c, .slice A2 l2 c2c] 70)
 have h1 := (h1.next zd hal).more hal.size
 have hV1 := (hV1.next zd hal).more hal.size
 have hB2 := bthen hB1 hal
 clear hal HOT b0
 have HC1 := lh (ref_cmp q.num.natAbs q.num.natAbs _ _ _ _ _ hV1.parts.2.1 h1.parts.2.1 s1 s1)
 have HQ1 := lh h1
 have HQ2 := lh hV1
 clear h1 hV1
 obtain ⟨b1q0, b1q1, b1q2⟩ := b1.c3
 go_wp2_with fail
 have hnl : ¬ w1.heap.size = w.heap.size + 1 := by omega
 have hnl2 : ¬ w.heap.size + 1 = w1.heap.size := by omega
 generalize w1.alloc (.cells #[.bool n0, .slice A1 l1 c1c, .slice A2 l2 c2c] 70) = w2 at *
 rw [cmpI_eq] at HC1
 refine HC1.out.mono ?_
 rintro e w3 ⟨rfl, hw3⟩
 have b1 := b1.below hw3 b1.lt
 have bt := bt.below hw3 bt.lt
 clear b1q0 b1q1 b1q2
 obtain ⟨b1q0, b1q1, b1q2⟩ := b1.c3; obtain ⟨btq0, btq1, btq2⟩ := bt.c3
 have HC2 := lh (ref_cmp q.den q.den _ _ _ _ w3 (HQ2.out.next zd hw3).parts.2.2 (HQ1.out.next zd hw3).parts.2.2 s2 s2)
 rw [cmpI_eq] at HC2
 clear HC1 HQ1 HQ2
 go_wp2_with fail
 refine HC2.out.mono ?_
 rintro e w4 ⟨rfl, hw4⟩
 go_wp2
 go_ret
 exact ⟨rfl, bthen (bthen hB2 hw3) hw4⟩
end Go.Proofs.YtecnjlcfoobepaaGreatDoor
