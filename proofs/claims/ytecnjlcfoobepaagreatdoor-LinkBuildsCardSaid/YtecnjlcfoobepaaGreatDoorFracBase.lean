import Derived.Test.YtecnjlcfoobepaaGreatDoorWholeM
import Derived.Test.YtecnjlcfoobepaaGreatDoorNatDiv
import Derived.Test.YtecnjlcfoobepaaGreatDoorNatB
namespace Go.Proofs.YtecnjlcfoobepaaGreatDoor
set_option maxRecDepth 100000
set_option maxHeartbeats 400000
open Go.RowKit
set_option linter.unusedSimpArgs false
set_option linter.unusedVariables false
theorem frac_isWhole (q : Rat) (w : World) (hq : QS 1099511627776 q) : Calls Tryz.prog 64 #[qV q] w (Ret (.bool (decide (q.den = 1))) w) := by
 have hb := hq.qden
 have hz := qden_zero q
 have hp := blen_pos (qden q)
 have e : ((blen (qden q) : Int) == 0) = decide (q.den = 1) := by
  rw [Bool.eq_iff_iff]
  simp
  omega
 have e2 : (blen (qden q) == 0) = decide (q.den = 1) := by
  rw [Bool.eq_iff_iff]
  simp
  omega
 have HE := lh (And.intro e e2)
 obtain ⟨r, hr⟩ : ∃ r, decide (q.den = 1) = r := ⟨_, rfl⟩
 rw [hr] at HE e e2
 rw [hr]
 clear hr hz hp
 unfold qV
 have b0 := Blk.new w  56 #[.bool (decide (q.num < 0)), .int .u64 (lo q.num.natAbs : Int), .string (mo q.num.natAbs), .int .u64 (lo ((qden q)) : Int), .string (mo ((qden q)))]; have hB := balloc1 w (.cells #[.bool (decide (q.num < 0)), .int .u64 (lo q.num.natAbs : Int), .string (mo q.num.natAbs), .int .u64 (lo ((qden q)) : Int), .string (mo ((qden q)))] 56); have hZ := lh (show (w.alloc (.cells #[.bool (decide (q.num < 0)), .int .u64 (lo q.num.natAbs : Int), .string (mo q.num.natAbs), .int .u64 (lo ((qden q)) : Int), .string (mo ((qden q)))] 56)).heap.size = w.heap.size + 1 from by simp)
 go_enter Tryz.func64, Tryz.ntmps64
 go_wp2_with fail
 generalize (w.alloc (.cells #[.bool (decide (q.num < 0)), .int .u64 (lo q.num.natAbs : Int), .string (mo q.num.natAbs), .int .u64 (lo ((qden q)) : Int), .string (mo ((qden q)))] 56)) = W at *
 refine (nat_bits (qden q) W (by omega)).mono ?_
 rintro e1 w1 ⟨rfl, hb1⟩
 go_wp2
 go_ret
 exact ⟨rfl, bthen hB hb1⟩
theorem frac_den (q : Rat) (w : World) (hq : QS 1099511627776 q) : Calls Tryz.prog 67 #[qV q] w (Ret (natV q.den) w) := by
 have hw := fun w => frac_isWhole q w hq
 by_cases h : q.den = 1
 ·have e : decide (q.den = 1) = true := decide_eq_true h
  rw [e] at hw
  rw [h]
  have hof := fun w => nat_of 1 w (by omega)
  have HW := lh hw
  have HOF := lh hof
  clear hw hof e h
  unfold natV at HOF ⊢
  unfold qV at HW ⊢
  have b0 := (Blk.new w  56 #[.bool (decide (q.num < 0)), .int .u64 (lo q.num.natAbs : Int), .string (mo q.num.natAbs), .int .u64 (lo ((qden q)) : Int), .string (mo ((qden q)))]).alloc (.cells #[.int .u64 0, .string ⟨#[]⟩] 52); have b1 := Blk.new2 w (.cells #[.bool (decide (q.num < 0)), .int .u64 (lo q.num.natAbs : Int), .string (mo q.num.natAbs), .int .u64 (lo ((qden q)) : Int), .string (mo ((qden q)))] 56) 52 #[.int .u64 0, .string ⟨#[]⟩]; have hB := balloc2 w (.cells #[.bool (decide (q.num < 0)), .int .u64 (lo q.num.natAbs : Int), .string (mo q.num.natAbs), .int .u64 (lo ((qden q)) : Int), .string (mo ((qden q)))] 56) (.cells #[.int .u64 0, .string ⟨#[]⟩] 52); have hZ := lh (show ((w.alloc (.cells #[.bool (decide (q.num < 0)), .int .u64 (lo q.num.natAbs : Int), .string (mo q.num.natAbs), .int .u64 (lo ((qden q)) : Int), .string (mo ((qden q)))] 56)).alloc (.cells #[.int .u64 0, .string ⟨#[]⟩] 52)).heap.size = w.heap.size + 1 + 1 from by simp)
  go_enter Tryz.func67, Tryz.ntmps67
  go_wp2_with fail
  generalize ((w.alloc (.cells #[.bool (decide (q.num < 0)), .int .u64 (lo q.num.natAbs : Int), .string (mo q.num.natAbs), .int .u64 (lo ((qden q)) : Int), .string (mo ((qden q)))] 56)).alloc (.cells #[.int .u64 0, .string ⟨#[]⟩] 52)) = W at *
  refine (HW.out W).mono ?_
  rintro e1 w1 ⟨rfl, hb1⟩
  have hB1 := bthen hB hb1
  have b1 := b1.below hb1 b1.lt
  go_wp2_with fail
  refine (HOF.out w1).mono ?_
  rintro e1 w2 ⟨rfl, hb2⟩
  have hB2 := bthen hB1 hb2
  (try clear b1q0 b1q1 b1f0 b1f1 b1s0 b1s1); have b1 := b1.below hb2 b1.lt; obtain ⟨b1q0, b1q1, b1f0, b1f1, b1s0, b1s1⟩ := b1.f2
  go_wp2
  refine bodyPost_ret (v := .agg #[.int .u64 (lo 1 : Int), .string (mo 1)]) (by simp [results, Tryz.results67, go_sem, b1s0, b1s1]) rfl ?_
  exact ⟨rfl, bset2 hB2 (by omega) _ _⟩
 have e : decide (q.den = 1) = false := decide_eq_false h
 have e2 : qden q = q.den := by unfold qden; rw [if_neg h]
 rw [e] at hw
 have HW := lh hw
 clear hw e h
 unfold natV
 unfold qV at HW ⊢
 have b0 := (Blk.new w  56 #[.bool (decide (q.num < 0)), .int .u64 (lo q.num.natAbs : Int), .string (mo q.num.natAbs), .int .u64 (lo ((qden q)) : Int), .string (mo ((qden q)))]).alloc (.cells #[.int .u64 0, .string ⟨#[]⟩] 52); have b1 := Blk.new2 w (.cells #[.bool (decide (q.num < 0)), .int .u64 (lo q.num.natAbs : Int), .string (mo q.num.natAbs), .int .u64 (lo ((qden q)) : Int), .string (mo ((qden q)))] 56) 52 #[.int .u64 0, .string ⟨#[]⟩]; have hB := balloc2 w (.cells #[.bool (decide (q.num < 0)), .int .u64 (lo q.num.natAbs : Int), .string (mo q.num.natAbs), .int .u64 (lo ((qden q)) : Int), .string (mo ((qden q)))] 56) (.cells #[.int .u64 0, .string ⟨#[]⟩] 52); have hZ := lh (show ((w.alloc (.cells #[.bool (decide (q.num < 0)), .int .u64 (lo q.num.natAbs : Int), .string (mo q.num.natAbs), .int .u64 (lo ((qden q)) : Int), .string (mo ((qden q)))] 56)).alloc (.cells #[.int .u64 0, .string ⟨#[]⟩] 52)).heap.size = w.heap.size + 1 + 1 from by simp)
 rw [e2] at HW b0 b1 hB hZ
 rw [e2]
 clear e2
 go_enter Tryz.func67, Tryz.ntmps67
 go_wp2_with fail
 generalize (w.alloc (.cells #[.bool (decide (q.num < 0)), .int .u64 (lo q.num.natAbs : Int), .string (mo q.num.natAbs), .int .u64 (lo q.den : Int), .string (mo q.den)] 56)).alloc (.cells #[.int .u64 0, .string ⟨#[]⟩] 52) = W at *
 refine (HW.out W).mono ?_
 rintro e1 w1 ⟨rfl, hb1⟩
 have hB1 := bthen hB hb1
 (try clear b0q0 b0q1 b0q2 b0q3 b0q4); have b0 := b0.below hb1 b0.lt; obtain ⟨b0q0, b0q1, b0q2, b0q3, b0q4⟩ := b0.c5
 (try clear b1q0 b1q1 b1f0 b1f1 b1s0 b1s1); have b1 := b1.below hb1 b1.lt; obtain ⟨b1q0, b1q1, b1f0, b1f1, b1s0, b1s1⟩ := b1.f2
 have n1 : ¬ w.heap.size = w.heap.size + 1 := by omega
 go_wp2
 refine bodyPost_ret (v := .agg #[.int .u64 (lo q.den : Int), .string (mo q.den)]) (by simp [results, Tryz.results67, go_sem, b1s0, b1s1]) rfl ?_
 exact ⟨rfl, bset2 hB1 (by omega) _ _⟩
theorem frac_num (q : Rat) (w : World) : Calls Tryz.prog 105 #[qV q] w (Ret (intV q.num) w) := by
 unfold qV intV
 go_enter Tryz.func105, Tryz.ntmps105
 go_wp2
 go_returns
 exact ⟨rfl, by go_grown⟩
theorem frac_sign (q : Rat) (w : World) (hq : QS 1099511627776 q) : Calls Tryz.prog 49 #[qV q] w (Ret (.int .i64 q.num.sign) w) := by
 have hs := lh (fun w => whole_sign q.num w (by have := hq.1; omega))
 unfold qV
 unfold intV at hs
 have b0 := Blk.new w  56 #[.bool (decide (q.num < 0)), .int .u64 (lo q.num.natAbs : Int), .string (mo q.num.natAbs), .int .u64 (lo ((qden q)) : Int), .string (mo ((qden q)))]; have hB := balloc1 w (.cells #[.bool (decide (q.num < 0)), .int .u64 (lo q.num.natAbs : Int), .string (mo q.num.natAbs), .int .u64 (lo ((qden q)) : Int), .string (mo ((qden q)))] 56); have hZ := lh (show (w.alloc (.cells #[.bool (decide (q.num < 0)), .int .u64 (lo q.num.natAbs : Int), .string (mo q.num.natAbs), .int .u64 (lo ((qden q)) : Int), .string (mo ((qden q)))] 56)).heap.size = w.heap.size + 1 from by simp)
 go_enter Tryz.func49, Tryz.ntmps49
 go_wp2_with fail
 generalize (w.alloc (.cells #[.bool (decide (q.num < 0)), .int .u64 (lo q.num.natAbs : Int), .string (mo q.num.natAbs), .int .u64 (lo ((qden q)) : Int), .string (mo ((qden q)))] 56)) = W at *
 refine (hs.out W).mono ?_
 rintro e1 w1 ⟨rfl, hb1⟩
 go_wp2
 go_ret
 exact ⟨rfl, bthen hB hb1⟩
theorem frac_neg (q : Rat) (w : World) (hq : QS 1099511627776 q) : Calls Tryz.prog 157 #[qV q] w (Ret (qV (-q)) w) := by
 have hs := lh (fun w => whole_neg q.num w hq.1)
 have e : qden (-q) = qden q := rfl
 unfold qV
 rw [e, Rat.neg_num, Int.natAbs_neg]
 unfold intV at hs
 rw [Int.natAbs_neg] at hs
 clear e
 obtain ⟨ng, hng⟩ : ∃ ng, decide (-q.num < 0) = ng := ⟨_, rfl⟩
 rw [hng] at hs ⊢
 clear hng
 have HS := hs
 generalize decide (q.num < 0) = nq at *
 have b0 := (Blk.new w  56 #[.bool nq, .int .u64 (lo q.num.natAbs : Int), .string (mo q.num.natAbs), .int .u64 (lo (qden q) : Int), .string (mo (qden q))]).alloc (.cells #[.bool false, .int .u64 0, .string ⟨#[]⟩, .int .u64 0, .string ⟨#[]⟩] 56); have b1 := Blk.new2 w (.cells #[.bool nq, .int .u64 (lo q.num.natAbs : Int), .string (mo q.num.natAbs), .int .u64 (lo (qden q) : Int), .string (mo (qden q))] 56) 56 #[.bool false, .int .u64 0, .string ⟨#[]⟩, .int .u64 0, .string ⟨#[]⟩]; have hB := balloc2 w (.cells #[.bool nq, .int .u64 (lo q.num.natAbs : Int), .string (mo q.num.natAbs), .int .u64 (lo (qden q) : Int), .string (mo (qden q))] 56) (.cells #[.bool false, .int .u64 0, .string ⟨#[]⟩, .int .u64 0, .string ⟨#[]⟩] 56); have hZ := lh (show ((w.alloc (.cells #[.bool nq, .int .u64 (lo q.num.natAbs : Int), .string (mo q.num.natAbs), .int .u64 (lo (qden q) : Int), .string (mo (qden q))] 56)).alloc (.cells #[.bool false, .int .u64 0, .string ⟨#[]⟩, .int .u64 0, .string ⟨#[]⟩] 56)).heap.size = w.heap.size + 1 + 1 from by simp)
 go_enter Tryz.func157, Tryz.ntmps157
 go_wp2_with fail
 generalize ((w.alloc (.cells #[.bool nq, .int .u64 (lo q.num.natAbs : Int), .string (mo q.num.natAbs), .int .u64 (lo (qden q) : Int), .string (mo (qden q))] 56)).alloc (.cells #[.bool false, .int .u64 0, .string ⟨#[]⟩, .int .u64 0, .string ⟨#[]⟩] 56)) = W at *
 obtain ⟨b0q0, b0q1, b0q2, b0q3, b0q4⟩ := b0.c5; have c0 := b0.drew; have c1 := b1.drew; have ne0 : ¬ w.heap.size = w.heap.size + 1 := (by omega); have ne0x : ¬ w.heap.size + 1 = w.heap.size := (by omega); go_region_held3 (fun w' => w'.cell? ⟨w.heap.size, 0, none⟩ = some (.bool nq) /\ w'.cell? ⟨w.heap.size, 1, none⟩ = some (.int .u64 (lo q.num.natAbs : Int)) /\ w'.cell? ⟨w.heap.size, 2, none⟩ = some (.string (mo q.num.natAbs)) /\ w'.cell? ⟨w.heap.size, 3, none⟩ = some (.int .u64 (lo (qden q) : Int)) /\ w'.cell? ⟨w.heap.size, 4, none⟩ = some (.string (mo (qden q)))) (go_keep) (first | (go_at_call 108; refine (HS.out _).mono ?_; rintro e w1 ⟨rfl, hw1⟩; (try clear c0q0 c0q1 c0q2 c0q3 c0q4); have c0 := c0.below hw1 c0.lt; obtain ⟨c0q0, c0q1, c0q2, c0q3, c0q4⟩ := c0.c5; have c1 := c1.below hw1 c1.lt; obtain ⟨c1q0, c1q1, c1q2, c1q3, c1q4, c1f0, c1f1, c1f2, c1f3, c1f4, c1s0, c1s1, c1s2, c1s3, c1s4⟩ := c1.f5))
 all_goals
  go_wp2
  refine bodyPost_ret (v := .agg #[.bool ng, .int .u64 (lo q.num.natAbs : Int), .string (mo q.num.natAbs), .int .u64 (lo (qden q) : Int), .string (mo (qden q))]) (by simp [results, Tryz.results157, go_sem, c1s0, c1s1, c1s2, c1s3, c1s4]) rfl ?_
  exact ⟨rfl, bset5 (bthen hB (bdrew hw1)) (by omega) _ _ _ _ _⟩
theorem frac_pack (q : Rat) (w : World) (hq : QS 1099511627776 q) : Calls Tryz.prog 80 #[intV q.num, natV q.den] w (Ret (qV q) w) := by
 have hbs := lh (fun w => nat_bits q.den w (by have := hq.2; omega))
 have h1 := blen_one q.den
 have hbl := hq.2
 unfold qV
 unfold intV
 unfold natV at hbs ⊢
 have b0 := ((Blk.new w  54 #[.bool (decide (q.num < 0)), .int .u64 (lo q.num.natAbs : Int), .string (mo q.num.natAbs)]).alloc (.cells #[.int .u64 (lo q.den : Int), .string (mo q.den)] 52)).alloc (.cells #[.bool false, .int .u64 0, .string ⟨#[]⟩, .int .u64 0, .string ⟨#[]⟩] 56); have b1 := (Blk.new2 w (.cells #[.bool (decide (q.num < 0)), .int .u64 (lo q.num.natAbs : Int), .string (mo q.num.natAbs)] 54) 52 #[.int .u64 (lo q.den : Int), .string (mo q.den)]).alloc (.cells #[.bool false, .int .u64 0, .string ⟨#[]⟩, .int .u64 0, .string ⟨#[]⟩] 56); have b2 := Blk.new3 w (.cells #[.bool (decide (q.num < 0)), .int .u64 (lo q.num.natAbs : Int), .string (mo q.num.natAbs)] 54) (.cells #[.int .u64 (lo q.den : Int), .string (mo q.den)] 52) 56 #[.bool false, .int .u64 0, .string ⟨#[]⟩, .int .u64 0, .string ⟨#[]⟩]; have hB := balloc3 w (.cells #[.bool (decide (q.num < 0)), .int .u64 (lo q.num.natAbs : Int), .string (mo q.num.natAbs)] 54) (.cells #[.int .u64 (lo q.den : Int), .string (mo q.den)] 52) (.cells #[.bool false, .int .u64 0, .string ⟨#[]⟩, .int .u64 0, .string ⟨#[]⟩] 56); have hZ := lh (show (((w.alloc (.cells #[.bool (decide (q.num < 0)), .int .u64 (lo q.num.natAbs : Int), .string (mo q.num.natAbs)] 54)).alloc (.cells #[.int .u64 (lo q.den : Int), .string (mo q.den)] 52)).alloc (.cells #[.bool false, .int .u64 0, .string ⟨#[]⟩, .int .u64 0, .string ⟨#[]⟩] 56)).heap.size = w.heap.size + 1 + 1 + 1 from by simp)
 by_cases h : q.den = 1
 ·have e : qden q = 0 := (qden_zero q).2 h
  rw [e, mo_small 0 (by omega), lo_small 0 (by omega)]
  have e1 : ((blen q.den : Int) == 1) = true := by simp; omega
  have e2 : (blen q.den == 1) = true := by simp; omega
  clear e h h1
  go_enter Tryz.func80, Tryz.ntmps80
  go_wp2_with fail
  generalize (((w.alloc (.cells #[.bool (decide (q.num < 0)), .int .u64 (lo q.num.natAbs : Int), .string (mo q.num.natAbs)] 54)).alloc (.cells #[.int .u64 (lo q.den : Int), .string (mo q.den)] 52)).alloc (.cells #[.bool false, .int .u64 0, .string ⟨#[]⟩, .int .u64 0, .string ⟨#[]⟩] 56)) = W at *
  refine (hbs.out W).mono ?_
  rintro e1 w1 ⟨rfl, hb1⟩
  have hB1 := bthen hB hb1
  (try clear b0q0 b0q1 b0q2); have b0 := b0.below hb1 b0.lt; obtain ⟨b0q0, b0q1, b0q2⟩ := b0.c3; (try clear b1q0 b1q1); have b1 := b1.below hb1 b1.lt; obtain ⟨b1q0, b1q1⟩ := b1.c2
  (try clear b2q0 b2q1 b2q2 b2q3 b2q4 b2f0 b2f1 b2f2 b2f3 b2f4 b2s0 b2s1 b2s2 b2s3 b2s4); have b2 := b2.below hb1 b2.lt; obtain ⟨b2q0, b2q1, b2q2, b2q3, b2q4, b2f0, b2f1, b2f2, b2f3, b2f4, b2s0, b2s1, b2s2, b2s3, b2s4⟩ := b2.f5
  go_wp2
  refine bodyPost_ret (v := .agg #[.bool (decide (q.num < 0)), .int .u64 (lo q.num.natAbs : Int), .string (mo q.num.natAbs), .int .u64 ((0 : Nat) : Int), .string ⟨#[]⟩]) (by simp [results, Tryz.results80, go_sem, b2s0, b2s1, b2s2, b2s3, b2s4]) rfl ?_
  exact ⟨rfl, bset5 hB1 (by omega) _ _ _ _ _⟩
 have e : qden q = q.den := by unfold qden; rw [if_neg h]
 rw [e]
 have e1 : ((blen q.den : Int) == 1) = false := by simp; omega
 have e2 : (blen q.den == 1) = false := by simp; omega
 clear e h h1
 go_enter Tryz.func80, Tryz.ntmps80
 go_wp2_with fail
 generalize (((w.alloc (.cells #[.bool (decide (q.num < 0)), .int .u64 (lo q.num.natAbs : Int), .string (mo q.num.natAbs)] 54)).alloc (.cells #[.int .u64 (lo q.den : Int), .string (mo q.den)] 52)).alloc (.cells #[.bool false, .int .u64 0, .string ⟨#[]⟩, .int .u64 0, .string ⟨#[]⟩] 56)) = W at *
 refine (hbs.out W).mono ?_
 rintro e1 w1 ⟨rfl, hb1⟩
 have hB1 := bthen hB hb1
 (try clear b0q0 b0q1 b0q2); have b0 := b0.below hb1 b0.lt; obtain ⟨b0q0, b0q1, b0q2⟩ := b0.c3; (try clear b1q0 b1q1); have b1 := b1.below hb1 b1.lt; obtain ⟨b1q0, b1q1⟩ := b1.c2
 (try clear b2q0 b2q1 b2q2 b2q3 b2q4 b2f0 b2f1 b2f2 b2f3 b2f4 b2s0 b2s1 b2s2 b2s3 b2s4); have b2 := b2.below hb1 b2.lt; obtain ⟨b2q0, b2q1, b2q2, b2q3, b2q4, b2f0, b2f1, b2f2, b2f3, b2f4, b2s0, b2s1, b2s2, b2s3, b2s4⟩ := b2.f5
 go_wp2
 refine bodyPost_ret (v := .agg #[.bool (decide (q.num < 0)), .int .u64 (lo q.num.natAbs : Int), .string (mo q.num.natAbs), .int .u64 (lo q.den : Int), .string (mo q.den)]) (by simp [results, Tryz.results80, go_sem, b2s0, b2s1, b2s2, b2s3, b2s4]) rfl ?_
 exact ⟨rfl, bset5 hB1 (by omega) _ _ _ _ _⟩
theorem frac_over (a b : Nat) (w : World) (ha : blen a <= 1099511627776) (hb : blen b <= 1099511627776) (hb0 : b ≠ 0) : Calls Tryz.prog 82 #[natV a, natV b] w (Ret (natV (a / b)) w) := by
 have hbs := lh (fun w => nat_bits b w (by omega))
 have hdv := lh (fun w => nat_div a b w hb0 ha hb)
 have h1 := blen_one b
 by_cases h : b = 1
 ·rw [h, Nat.div_one]
  rw [h] at hbs hdv h1
  have e1 : ((blen 1 : Int) == 1) = true := rfl
  have e2 : (blen 1 == 1) = true := rfl
  clear h1
  generalize 1 = b at *
  unfold natV at hbs hdv ⊢
  have b0 := ((Blk.new w  52 #[.int .u64 (lo a : Int), .string (mo a)]).alloc (.cells #[.int .u64 (lo b : Int), .string (mo b)] 52)).alloc (.cells #[.int .u64 0, .string ⟨#[]⟩] 52); have b1 := (Blk.new2 w (.cells #[.int .u64 (lo a : Int), .string (mo a)] 52) 52 #[.int .u64 (lo b : Int), .string (mo b)]).alloc (.cells #[.int .u64 0, .string ⟨#[]⟩] 52); have b2 := Blk.new3 w (.cells #[.int .u64 (lo a : Int), .string (mo a)] 52) (.cells #[.int .u64 (lo b : Int), .string (mo b)] 52) 52 #[.int .u64 0, .string ⟨#[]⟩]; have hB := balloc3 w (.cells #[.int .u64 (lo a : Int), .string (mo a)] 52) (.cells #[.int .u64 (lo b : Int), .string (mo b)] 52) (.cells #[.int .u64 0, .string ⟨#[]⟩] 52); have hZ := lh (show (((w.alloc (.cells #[.int .u64 (lo a : Int), .string (mo a)] 52)).alloc (.cells #[.int .u64 (lo b : Int), .string (mo b)] 52)).alloc (.cells #[.int .u64 0, .string ⟨#[]⟩] 52)).heap.size = w.heap.size + 1 + 1 + 1 from by simp)
  go_enter Tryz.func82, Tryz.ntmps82
  go_wp2_with fail
  generalize (((w.alloc (.cells #[.int .u64 (lo a : Int), .string (mo a)] 52)).alloc (.cells #[.int .u64 (lo b : Int), .string (mo b)] 52)).alloc (.cells #[.int .u64 0, .string ⟨#[]⟩] 52)) = W at *
  refine (hbs.out W).mono ?_
  rintro e1 w1 ⟨rfl, hb1⟩
  have hB1 := bthen hB hb1
  (try clear b0q0 b0q1); have b0 := b0.below hb1 b0.lt; obtain ⟨b0q0, b0q1⟩ := b0.c2; (try clear b1q0 b1q1); have b1 := b1.below hb1 b1.lt; obtain ⟨b1q0, b1q1⟩ := b1.c2
  (try clear b2q0 b2q1 b2f0 b2f1 b2s0 b2s1); have b2 := b2.below hb1 b2.lt; obtain ⟨b2q0, b2q1, b2f0, b2f1, b2s0, b2s1⟩ := b2.f2
  go_wp2
  refine bodyPost_ret (v := .agg #[.int .u64 (lo a : Int), .string (mo a)]) (by simp [results, Tryz.results82, go_sem, b2s0, b2s1]) rfl ?_
  exact ⟨rfl, bset2 hB1 (by omega) _ _⟩
 have e1 : ((blen b : Int) == 1) = false := by simp; omega
 have e2 : (blen b == 1) = false := by simp; omega
 clear h1 h
 unfold natV at hbs hdv ⊢
 generalize a / b = Q at *
 generalize a % b = R at *
 have b0 := ((Blk.new w  52 #[.int .u64 (lo a : Int), .string (mo a)]).alloc (.cells #[.int .u64 (lo b : Int), .string (mo b)] 52)).alloc (.cells #[.int .u64 0, .string ⟨#[]⟩] 52); have b1 := (Blk.new2 w (.cells #[.int .u64 (lo a : Int), .string (mo a)] 52) 52 #[.int .u64 (lo b : Int), .string (mo b)]).alloc (.cells #[.int .u64 0, .string ⟨#[]⟩] 52); have b2 := Blk.new3 w (.cells #[.int .u64 (lo a : Int), .string (mo a)] 52) (.cells #[.int .u64 (lo b : Int), .string (mo b)] 52) 52 #[.int .u64 0, .string ⟨#[]⟩]; have hB := balloc3 w (.cells #[.int .u64 (lo a : Int), .string (mo a)] 52) (.cells #[.int .u64 (lo b : Int), .string (mo b)] 52) (.cells #[.int .u64 0, .string ⟨#[]⟩] 52); have hZ := lh (show (((w.alloc (.cells #[.int .u64 (lo a : Int), .string (mo a)] 52)).alloc (.cells #[.int .u64 (lo b : Int), .string (mo b)] 52)).alloc (.cells #[.int .u64 0, .string ⟨#[]⟩] 52)).heap.size = w.heap.size + 1 + 1 + 1 from by simp)
 go_enter Tryz.func82, Tryz.ntmps82
 go_wp2_with fail
 generalize (((w.alloc (.cells #[.int .u64 (lo a : Int), .string (mo a)] 52)).alloc (.cells #[.int .u64 (lo b : Int), .string (mo b)] 52)).alloc (.cells #[.int .u64 0, .string ⟨#[]⟩] 52)) = W at *
 refine (hbs.out W).mono ?_
 rintro e1 w1 ⟨rfl, hb1⟩
 have hB1 := bthen hB hb1
 (try clear b0q0 b0q1); have b0 := b0.below hb1 b0.lt; obtain ⟨b0q0, b0q1⟩ := b0.c2; (try clear b1q0 b1q1); have b1 := b1.below hb1 b1.lt; obtain ⟨b1q0, b1q1⟩ := b1.c2
 have b2 := b2.below hb1 b2.lt
 go_wp2_with fail
 refine (hdv.out w1).mono ?_
 rintro e1 w2 ⟨rfl, hb2⟩
 have hB2 := bthen (bthen hB1 hb2) (balloc2 w2 (.cells #[.int .u64 (lo Q : Int), .string (mo Q)] 52) (.cells #[.int .u64 (lo R : Int), .string (mo R)] 52))
 have bq := (Blk.new w2 52 #[.int .u64 (lo Q : Int), .string (mo Q)]).alloc (.cells #[.int .u64 (lo R : Int), .string (mo R)] 52)
 have b2 := ((b2.below hb2 b2.lt).alloc (.cells #[.int .u64 (lo Q : Int), .string (mo Q)] 52)).alloc (.cells #[.int .u64 (lo R : Int), .string (mo R)] 52)
 obtain ⟨bqq0, bqq1⟩ := bq.c2
 obtain ⟨b2q0, b2q1, b2f0, b2f1, b2s0, b2s1⟩ := b2.f2
 go_wp2
 refine bodyPost_ret (v := .agg #[.int .u64 (lo Q : Int), .string (mo Q)]) (by simp [results, Tryz.results82, go_sem, b2s0, b2s1]) rfl ?_
 exact ⟨rfl, bset2 hB2 (by omega) _ _⟩
theorem frac_times (n : Int) (d : Nat) (w : World) (hn : blen n.natAbs <= 1099511627776) (hd : blen d <= 1099511627776) : Calls Tryz.prog 66 #[intV n, natV d] w (Ret (intV (n * d)) w) := by
 have hfr := fun w => whole_from false d w (by omega)
 have hmu := fun w => whole_mul n d w hn (by rw [Int.natAbs_natCast]; exact hd)
 have e : signed false d = (d : Int) := rfl
 rw [e] at hfr
 clear e
 generalize n * (d : Int) = N at *
 unfold natV at hfr ⊢
 unfold intV at hfr hmu ⊢
 generalize decide (n < 0) = ng at *
 generalize decide (N < 0) = nG at *
 generalize decide ((d : Int) < 0) = nd at *
 rw [Int.natAbs_natCast] at hfr hmu
 have HFR := lh hfr
 have HMU := lh hmu
 clear hfr hmu
 have b0 := ((Blk.new w  54 #[.bool ng, .int .u64 (lo n.natAbs : Int), .string (mo n.natAbs)]).alloc (.cells #[.int .u64 (lo d : Int), .string (mo d)] 52)).alloc (.cells #[.bool false, .int .u64 0, .string ⟨#[]⟩] 54); have b1 := (Blk.new2 w (.cells #[.bool ng, .int .u64 (lo n.natAbs : Int), .string (mo n.natAbs)] 54) 52 #[.int .u64 (lo d : Int), .string (mo d)]).alloc (.cells #[.bool false, .int .u64 0, .string ⟨#[]⟩] 54); have b2 := Blk.new3 w (.cells #[.bool ng, .int .u64 (lo n.natAbs : Int), .string (mo n.natAbs)] 54) (.cells #[.int .u64 (lo d : Int), .string (mo d)] 52) 54 #[.bool false, .int .u64 0, .string ⟨#[]⟩]; have hB := balloc3 w (.cells #[.bool ng, .int .u64 (lo n.natAbs : Int), .string (mo n.natAbs)] 54) (.cells #[.int .u64 (lo d : Int), .string (mo d)] 52) (.cells #[.bool false, .int .u64 0, .string ⟨#[]⟩] 54); have hZ := lh (show (((w.alloc (.cells #[.bool ng, .int .u64 (lo n.natAbs : Int), .string (mo n.natAbs)] 54)).alloc (.cells #[.int .u64 (lo d : Int), .string (mo d)] 52)).alloc (.cells #[.bool false, .int .u64 0, .string ⟨#[]⟩] 54)).heap.size = w.heap.size + 1 + 1 + 1 from by simp)
 go_enter Tryz.func66, Tryz.ntmps66
 go_wp2_with fail
 generalize (((w.alloc (.cells #[.bool ng, .int .u64 (lo n.natAbs : Int), .string (mo n.natAbs)] 54)).alloc (.cells #[.int .u64 (lo d : Int), .string (mo d)] 52)).alloc (.cells #[.bool false, .int .u64 0, .string ⟨#[]⟩] 54)) = W at *
 obtain ⟨b0q0, b0q1, b0q2⟩ := b0.c3; obtain ⟨b1q0, b1q1⟩ := b1.c2; have c0 := b0.drew; have c1 := b1.drew; have c2 := b2.drew; have ne0 : ¬ w.heap.size = w.heap.size + 1 + 1 := (by omega); have ne0x : ¬ w.heap.size + 1 + 1 = w.heap.size := (by omega); have ne1 : ¬ w.heap.size + 1 = w.heap.size + 1 + 1 := (by omega); have ne1x : ¬ w.heap.size + 1 + 1 = w.heap.size + 1 := (by omega); go_region_held3 (fun w' => w'.cell? ⟨w.heap.size, 0, none⟩ = some (.bool ng) /\ w'.cell? ⟨w.heap.size, 1, none⟩ = some (.int .u64 (lo n.natAbs : Int)) /\ w'.cell? ⟨w.heap.size, 2, none⟩ = some (.string (mo n.natAbs)) /\ w'.cell? ⟨w.heap.size + 1, 0, none⟩ = some (.int .u64 (lo d : Int)) /\ w'.cell? ⟨w.heap.size + 1, 1, none⟩ = some (.string (mo d))) (go_keep) (first | (go_at_call 74; refine (HFR.out _).mono ?_; rintro e w1 ⟨rfl, hw1⟩; (try clear c0q0 c0q1 c0q2); have c0 := c0.below hw1 c0.lt; obtain ⟨c0q0, c0q1, c0q2⟩ := c0.c3; (try clear c1q0 c1q1); have c1 := c1.below hw1 c1.lt; obtain ⟨c1q0, c1q1⟩ := c1.c2; have c2 := c2.below hw1 c2.lt) | (go_at_call 78; refine (HMU.out _).mono ?_; rintro e w2 ⟨rfl, hw2⟩; (try clear c0q0 c0q1 c0q2); have c0 := c0.below hw2 c0.lt; obtain ⟨c0q0, c0q1, c0q2⟩ := c0.c3; (try clear c1q0 c1q1); have c1 := c1.below hw2 c1.lt; obtain ⟨c1q0, c1q1⟩ := c1.c2; have c2 := c2.below hw2 c2.lt; obtain ⟨c2q0, c2q1, c2q2, c2f0, c2f1, c2f2, c2s0, c2s1, c2s2⟩ := c2.f3))
 all_goals
  go_wp2
  refine bodyPost_ret (v := .agg #[.bool nG, .int .u64 (lo N.natAbs : Int), .string (mo N.natAbs)]) (by simp [results, Tryz.results66, go_sem, c2s0, c2s1, c2s2]) rfl ?_
  exact ⟨rfl, bset3 (bthen (bthen hB (bdrew hw1)) hw2) (by omega) _ _ _⟩
theorem part_signed (n : Int) (b : Nat) (h : b ∣ n.natAbs) : signed (decide (n.sign < 0)) (n.natAbs / b) = n / (b : Int) := by
 unfold signed
 obtain ⟨k, hk⟩ := h
 rcases Nat.eq_zero_or_pos b with h0 | h0
 ·subst h0
  simp
 rw [hk, Nat.mul_div_cancel_left _ h0]
 by_cases hn : n < 0
 ·rw [Int.sign_eq_neg_one_of_neg hn, if_pos (by decide)]
  have e : n = (b : Int) * (-(k : Int)) := by
   rw [Int.mul_neg, <- Int.natCast_mul, <- hk]
   omega
  rw [e, Int.mul_ediv_cancel_left _ (by omega)]
 have hs : ¬ n.sign < 0 := by
  rcases Int.lt_trichotomy n 0 with h | h | h
  ·omega
  ·rw [h]; decide
  rw [Int.sign_eq_one_of_pos h]; decide
 rw [if_neg (by simpa using hs)]
 have e : n = (b : Int) * (k : Int) := by
  rw [<- Int.natCast_mul, <- hk]
  omega
 rw [e, Int.mul_ediv_cancel_left _ (by omega)]
theorem frac_part (n : Int) (b : Nat) (w : World) (hn : blen n.natAbs <= 1099511627776) (hb : blen b <= 1099511627776) (hb0 : b ≠ 0) (hdv : b ∣ n.natAbs) : Calls Tryz.prog 81 #[intV n, natV b] w (Ret (intV (n / (b : Int))) w) := by
 have hsg := fun w => whole_sign n w (by omega)
 have hab := fun w => whole_abs n w
 have hov := fun w => frac_over n.natAbs b w hn hb hb0
 have hfr := fun w => whole_from (decide (n.sign < 0)) (n.natAbs / b) w (by have := blen_div n.natAbs b; omega)
 rw [part_signed n b hdv] at hfr
 generalize n.natAbs / b = q at *
 generalize n / (b : Int) = N at *
 generalize n.sign = sg at *
 clear hdv
 unfold natV at hab hov hfr ⊢
 unfold intV at hsg hab hfr ⊢
 generalize decide (n < 0) = ng at *
 generalize decide (N < 0) = nG at *
 have HSG := lh hsg
 have HAB := lh hab
 have HOV := lh hov
 have HFR := lh hfr
 clear hsg hab hov hfr
 have b0 := ((Blk.new w  54 #[.bool ng, .int .u64 (lo n.natAbs : Int), .string (mo n.natAbs)]).alloc (.cells #[.int .u64 (lo b : Int), .string (mo b)] 52)).alloc (.cells #[.bool false, .int .u64 0, .string ⟨#[]⟩] 54); have b1 := (Blk.new2 w (.cells #[.bool ng, .int .u64 (lo n.natAbs : Int), .string (mo n.natAbs)] 54) 52 #[.int .u64 (lo b : Int), .string (mo b)]).alloc (.cells #[.bool false, .int .u64 0, .string ⟨#[]⟩] 54); have b2 := Blk.new3 w (.cells #[.bool ng, .int .u64 (lo n.natAbs : Int), .string (mo n.natAbs)] 54) (.cells #[.int .u64 (lo b : Int), .string (mo b)] 52) 54 #[.bool false, .int .u64 0, .string ⟨#[]⟩]; have hB := balloc3 w (.cells #[.bool ng, .int .u64 (lo n.natAbs : Int), .string (mo n.natAbs)] 54) (.cells #[.int .u64 (lo b : Int), .string (mo b)] 52) (.cells #[.bool false, .int .u64 0, .string ⟨#[]⟩] 54); have hZ := lh (show (((w.alloc (.cells #[.bool ng, .int .u64 (lo n.natAbs : Int), .string (mo n.natAbs)] 54)).alloc (.cells #[.int .u64 (lo b : Int), .string (mo b)] 52)).alloc (.cells #[.bool false, .int .u64 0, .string ⟨#[]⟩] 54)).heap.size = w.heap.size + 1 + 1 + 1 from by simp)
 go_enter Tryz.func81, Tryz.ntmps81
 go_wp2_with fail
 generalize (((w.alloc (.cells #[.bool ng, .int .u64 (lo n.natAbs : Int), .string (mo n.natAbs)] 54)).alloc (.cells #[.int .u64 (lo b : Int), .string (mo b)] 52)).alloc (.cells #[.bool false, .int .u64 0, .string ⟨#[]⟩] 54)) = W at *
 obtain ⟨b0q0, b0q1, b0q2⟩ := b0.c3; obtain ⟨b1q0, b1q1⟩ := b1.c2; have c0 := b0.drew; have c1 := b1.drew; have c2 := b2.drew; have ne0 : ¬ w.heap.size = w.heap.size + 1 + 1 := (by omega); have ne0x : ¬ w.heap.size + 1 + 1 = w.heap.size := (by omega); have ne1 : ¬ w.heap.size + 1 = w.heap.size + 1 + 1 := (by omega); have ne1x : ¬ w.heap.size + 1 + 1 = w.heap.size + 1 := (by omega); go_region_held3 (fun w' => w'.cell? ⟨w.heap.size, 0, none⟩ = some (.bool ng) /\ w'.cell? ⟨w.heap.size, 1, none⟩ = some (.int .u64 (lo n.natAbs : Int)) /\ w'.cell? ⟨w.heap.size, 2, none⟩ = some (.string (mo n.natAbs)) /\ w'.cell? ⟨w.heap.size + 1, 0, none⟩ = some (.int .u64 (lo b : Int)) /\ w'.cell? ⟨w.heap.size + 1, 1, none⟩ = some (.string (mo b))) (go_keep) (first | (go_at_call 88; refine (HSG.out _).mono ?_; rintro e w1 ⟨rfl, hw1⟩; (try clear c0q0 c0q1 c0q2); have c0 := c0.below hw1 c0.lt; obtain ⟨c0q0, c0q1, c0q2⟩ := c0.c3; (try clear c1q0 c1q1); have c1 := c1.below hw1 c1.lt; obtain ⟨c1q0, c1q1⟩ := c1.c2; have c2 := c2.below hw1 c2.lt) | (go_at_call 110; refine (HAB.out _).mono ?_; rintro e w2 ⟨rfl, hw2⟩; (try clear c0q0 c0q1 c0q2); have c0 := c0.below hw2 c0.lt; obtain ⟨c0q0, c0q1, c0q2⟩ := c0.c3; (try clear c1q0 c1q1); have c1 := c1.below hw2 c1.lt; obtain ⟨c1q0, c1q1⟩ := c1.c2; have c2 := c2.below hw2 c2.lt) | (go_at_call 82; refine (HOV.out _).mono ?_; rintro e w3 ⟨rfl, hw3⟩; (try clear c0q0 c0q1 c0q2); have c0 := c0.below hw3 c0.lt; obtain ⟨c0q0, c0q1, c0q2⟩ := c0.c3; (try clear c1q0 c1q1); have c1 := c1.below hw3 c1.lt; obtain ⟨c1q0, c1q1⟩ := c1.c2; have c2 := c2.below hw3 c2.lt) | (go_at_call 74; refine (HFR.out _).mono ?_; rintro e w4 ⟨rfl, hw4⟩; (try clear c0q0 c0q1 c0q2); have c0 := c0.below hw4 c0.lt; obtain ⟨c0q0, c0q1, c0q2⟩ := c0.c3; (try clear c1q0 c1q1); have c1 := c1.below hw4 c1.lt; obtain ⟨c1q0, c1q1⟩ := c1.c2; have c2 := c2.below hw4 c2.lt; obtain ⟨c2q0, c2q1, c2q2, c2f0, c2f1, c2f2, c2s0, c2s1, c2s2⟩ := c2.f3))
 all_goals
  go_wp2
  refine bodyPost_ret (v := .agg #[.bool nG, .int .u64 (lo N.natAbs : Int), .string (mo N.natAbs)]) (by simp [results, Tryz.results81, go_sem, c2s0, c2s1, c2s2]) rfl ?_
  exact ⟨rfl, bset3 (bthen (bthen (bthen (bthen hB (bdrew hw1)) hw2) hw3) hw4) (by omega) _ _ _⟩
theorem frac_of (z : Int) (w : World) (h0 : -9223372036854775808 <= z) (h1 : z <= 9223372036854775807) : Calls Tryz.prog 38 #[.int .i64 z] w (Ret (qV (z : Rat)) w) := by
 have hof := fun w => whole_of z w h0 h1
 have e : qV (z : Rat) = .agg #[.bool (decide (z < 0)), .int .u64 (lo z.natAbs : Int), .string (mo z.natAbs), .int .u64 0, .string ⟨#[]⟩] := rfl
 rw [e]
 unfold intV at hof
 have HOF := lh hof
 clear hof e
 generalize decide (z < 0) = nz at *
 have b0 := Blk.new w  56 #[.bool false, .int .u64 0, .string ⟨#[]⟩, .int .u64 0, .string ⟨#[]⟩]; have hB := balloc1 w (.cells #[.bool false, .int .u64 0, .string ⟨#[]⟩, .int .u64 0, .string ⟨#[]⟩] 56); have hZ := lh (show (w.alloc (.cells #[.bool false, .int .u64 0, .string ⟨#[]⟩, .int .u64 0, .string ⟨#[]⟩] 56)).heap.size = w.heap.size + 1 from by simp)
 go_enter Tryz.func38, Tryz.ntmps38
 go_wp2_with fail
 generalize (w.alloc (.cells #[.bool false, .int .u64 0, .string ⟨#[]⟩, .int .u64 0, .string ⟨#[]⟩] 56)) = W at *
 refine (HOF.out W).mono ?_
 rintro e1 w1 ⟨rfl, hb1⟩
 have hB1 := bthen hB hb1
 (try clear b0q0 b0q1 b0q2 b0q3 b0q4 b0f0 b0f1 b0f2 b0f3 b0f4 b0s0 b0s1 b0s2 b0s3 b0s4); have b0 := b0.below hb1 b0.lt; obtain ⟨b0q0, b0q1, b0q2, b0q3, b0q4, b0f0, b0f1, b0f2, b0f3, b0f4, b0s0, b0s1, b0s2, b0s3, b0s4⟩ := b0.f5
 go_wp2
 refine bodyPost_ret (v := .agg #[.bool nz, .int .u64 (lo z.natAbs : Int), .string (mo z.natAbs), .int .u64 0, .string ⟨#[]⟩]) (by simp [results, Tryz.results38, go_sem, b0s0, b0s1, b0s2, b0s3, b0s4]) rfl ?_
 exact ⟨rfl, bset5 hB1 (by omega) _ _ _ _ _⟩
end Go.Proofs.YtecnjlcfoobepaaGreatDoor
