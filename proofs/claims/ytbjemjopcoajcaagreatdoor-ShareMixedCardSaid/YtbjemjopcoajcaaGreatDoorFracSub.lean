/-
  frac.Q.Sub, frac.Over.
-/
import Derived.Test.YtbjemjopcoajcaaGreatDoorFracAdd
namespace Go.Proofs.YtbjemjopcoajcaaGreatDoor
open Go.RowKit
set_option linter.unusedSimpArgs false
set_option linter.unusedVariables false

set_option maxRecDepth 100000 in
set_option maxHeartbeats 1000000 in
theorem frac_sub (a b : Rat) (w : World) (ha : QS 137438953472 a) (hb : QS 137438953472 b) (hT : Tab w) : Calls Tryz.prog 31 #[qV a, qV b] w (Ret (qV (a - b)) w) := by
  have hng := fun w => frac_neg b w (hb.mono (by omega))
  have had := fun w (hT : Tab w) => frac_add a (-b) w ha hb.neg hT
  rw [← Rat.sub_eq_add_neg] at had
  generalize -b = c at *
  generalize a - b = s at *
  unfold qV at hng had ⊢
  have HNG := Lib.hid hng
  have HAD := Lib.hid had
  clear hng had ha hb
  have b0 := ((Blk.new w  52 #[.bool (decide (a.num < 0)), .int .u64 (lo a.num.natAbs : Int), .string (mo a.num.natAbs), .int .u64 (lo ((qden a)) : Int), .string (mo ((qden a)))]).alloc (.cells #[.bool (decide (b.num < 0)), .int .u64 (lo b.num.natAbs : Int), .string (mo b.num.natAbs), .int .u64 (lo ((qden b)) : Int), .string (mo ((qden b)))] 52)).alloc (.cells #[.bool false, .int .u64 0, .string ⟨#[]⟩, .int .u64 0, .string ⟨#[]⟩] 52); have b1 := (Blk.new2 w (.cells #[.bool (decide (a.num < 0)), .int .u64 (lo a.num.natAbs : Int), .string (mo a.num.natAbs), .int .u64 (lo ((qden a)) : Int), .string (mo ((qden a)))] 52) 52 #[.bool (decide (b.num < 0)), .int .u64 (lo b.num.natAbs : Int), .string (mo b.num.natAbs), .int .u64 (lo ((qden b)) : Int), .string (mo ((qden b)))]).alloc (.cells #[.bool false, .int .u64 0, .string ⟨#[]⟩, .int .u64 0, .string ⟨#[]⟩] 52); have b2 := Blk.new3 w (.cells #[.bool (decide (a.num < 0)), .int .u64 (lo a.num.natAbs : Int), .string (mo a.num.natAbs), .int .u64 (lo ((qden a)) : Int), .string (mo ((qden a)))] 52) (.cells #[.bool (decide (b.num < 0)), .int .u64 (lo b.num.natAbs : Int), .string (mo b.num.natAbs), .int .u64 (lo ((qden b)) : Int), .string (mo ((qden b)))] 52) 52 #[.bool false, .int .u64 0, .string ⟨#[]⟩, .int .u64 0, .string ⟨#[]⟩]; have hB := balloc3 w (.cells #[.bool (decide (a.num < 0)), .int .u64 (lo a.num.natAbs : Int), .string (mo a.num.natAbs), .int .u64 (lo ((qden a)) : Int), .string (mo ((qden a)))] 52) (.cells #[.bool (decide (b.num < 0)), .int .u64 (lo b.num.natAbs : Int), .string (mo b.num.natAbs), .int .u64 (lo ((qden b)) : Int), .string (mo ((qden b)))] 52) (.cells #[.bool false, .int .u64 0, .string ⟨#[]⟩, .int .u64 0, .string ⟨#[]⟩] 52); have hZ := Lib.hid (show (((w.alloc (.cells #[.bool (decide (a.num < 0)), .int .u64 (lo a.num.natAbs : Int), .string (mo a.num.natAbs), .int .u64 (lo ((qden a)) : Int), .string (mo ((qden a)))] 52)).alloc (.cells #[.bool (decide (b.num < 0)), .int .u64 (lo b.num.natAbs : Int), .string (mo b.num.natAbs), .int .u64 (lo ((qden b)) : Int), .string (mo ((qden b)))] 52)).alloc (.cells #[.bool false, .int .u64 0, .string ⟨#[]⟩, .int .u64 0, .string ⟨#[]⟩] 52)).heap.size = w.heap.size + 1 + 1 + 1 from by simp)
  have ne1 : ¬ w.heap.size = w.heap.size + 1 + 1 := by omega
  have ne2 : ¬ w.heap.size + 1 = w.heap.size + 1 + 1 := by omega
  have ne3 : ¬ w.heap.size + 1 + 1 = w.heap.size := by omega
  have ne4 : ¬ w.heap.size + 1 + 1 = w.heap.size + 1 := by omega
  go_enter Tryz.func31, Tryz.ntmps31
  go_wp2_with fail
  generalize (((w.alloc (.cells #[.bool (decide (a.num < 0)), .int .u64 (lo a.num.natAbs : Int), .string (mo a.num.natAbs), .int .u64 (lo ((qden a)) : Int), .string (mo ((qden a)))] 52)).alloc (.cells #[.bool (decide (b.num < 0)), .int .u64 (lo b.num.natAbs : Int), .string (mo b.num.natAbs), .int .u64 (lo ((qden b)) : Int), .string (mo ((qden b)))] 52)).alloc (.cells #[.bool false, .int .u64 0, .string ⟨#[]⟩, .int .u64 0, .string ⟨#[]⟩] 52)) = W at *
  have tT := hT.next hB
  obtain ⟨b0q0, b0q1, b0q2, b0q3, b0q4⟩ := b0.c5; have c0z := b0.lt; have c0 := b0.drew; have c0l := c0.lt; obtain ⟨b1q0, b1q1, b1q2, b1q3, b1q4⟩ := b1.c5; have c1z := b1.lt; have c1 := b1.drew; have c1l := c1.lt; have c2 := b2.drew; have c2l := c2.lt; have hc := bdrew0 W; have tT : Tab W.drew := tT; go_region_held3 (fun w' => w'.cell? ⟨w.heap.size, 0, none⟩ = some (.bool (decide (a.num < 0))) ∧ w'.cell? ⟨w.heap.size, 1, none⟩ = some (.int .u64 (lo a.num.natAbs : Int)) ∧ w'.cell? ⟨w.heap.size, 2, none⟩ = some (.string (mo a.num.natAbs)) ∧ w'.cell? ⟨w.heap.size, 3, none⟩ = some (.int .u64 (lo ((qden a)) : Int)) ∧ w'.cell? ⟨w.heap.size, 4, none⟩ = some (.string (mo ((qden a)))) ∧ w'.cell? ⟨w.heap.size + 1, 0, none⟩ = some (.bool (decide (b.num < 0))) ∧ w'.cell? ⟨w.heap.size + 1, 1, none⟩ = some (.int .u64 (lo b.num.natAbs : Int)) ∧ w'.cell? ⟨w.heap.size + 1, 2, none⟩ = some (.string (mo b.num.natAbs)) ∧ w'.cell? ⟨w.heap.size + 1, 3, none⟩ = some (.int .u64 (lo ((qden b)) : Int)) ∧ w'.cell? ⟨w.heap.size + 1, 4, none⟩ = some (.string (mo ((qden b))))) (go_keep) (first | (go_at_call 69; refine (HNG.out _).mono ?_; rintro e w1 ⟨rfl, hw1⟩; (first | have c0 := c0.below hw1 c0.lt | have c0 := (c0.alloc _).below hw1 (c0.alloc _).lt | have c0 := ((c0.alloc _).alloc _).below hw1 ((c0.alloc _).alloc _).lt); (try clear c0q0 c0q1 c0q2 c0q3 c0q4); obtain ⟨c0q0, c0q1, c0q2, c0q3, c0q4⟩ := c0.c5; (try clear c0l); have c0l := c0.lt; (first | have c1 := c1.below hw1 c1.lt | have c1 := (c1.alloc _).below hw1 (c1.alloc _).lt | have c1 := ((c1.alloc _).alloc _).below hw1 ((c1.alloc _).alloc _).lt); (try clear c1q0 c1q1 c1q2 c1q3 c1q4); obtain ⟨c1q0, c1q1, c1q2, c1q3, c1q4⟩ := c1.c5; (try clear c1l); have c1l := c1.lt; (first | have c2 := c2.below hw1 c2.lt | have c2 := (c2.alloc _).below hw1 (c2.alloc _).lt | have c2 := ((c2.alloc _).alloc _).below hw1 ((c2.alloc _).alloc _).lt); (try clear c2l); have c2l := c2.lt; (first | have tT := tT.next hw1 | have tT := (tT.next (balloc1 _ _)).next hw1 | have tT := (tT.next (balloc2 _ _ _)).next hw1); have hc := bthen hc hw1) | (go_at_call 26; (first | refine (HAD.out _ tT).mono ?_ | refine (HAD.out _ (tT.next (balloc1 _ _))).mono ?_ | refine (HAD.out _ (tT.next (balloc2 _ _ _))).mono ?_); rintro e w2 ⟨rfl, hw2⟩; (first | have c0 := c0.below hw2 c0.lt | have c0 := (c0.alloc _).below hw2 (c0.alloc _).lt | have c0 := ((c0.alloc _).alloc _).below hw2 ((c0.alloc _).alloc _).lt); (try clear c0q0 c0q1 c0q2 c0q3 c0q4); obtain ⟨c0q0, c0q1, c0q2, c0q3, c0q4⟩ := c0.c5; (try clear c0l); have c0l := c0.lt; (first | have c1 := c1.below hw2 c1.lt | have c1 := (c1.alloc _).below hw2 (c1.alloc _).lt | have c1 := ((c1.alloc _).alloc _).below hw2 ((c1.alloc _).alloc _).lt); (try clear c1q0 c1q1 c1q2 c1q3 c1q4); obtain ⟨c1q0, c1q1, c1q2, c1q3, c1q4⟩ := c1.c5; (try clear c1l); have c1l := c1.lt; (first | have c2 := c2.below hw2 c2.lt | have c2 := (c2.alloc _).below hw2 (c2.alloc _).lt | have c2 := ((c2.alloc _).alloc _).below hw2 ((c2.alloc _).alloc _).lt); (try clear c2l); have c2l := c2.lt; have hc := bthen hc hw2; obtain ⟨c2q0, c2q1, c2q2, c2q3, c2q4, c2f0, c2f1, c2f2, c2f3, c2f4, c2s0, c2s1, c2s2, c2s3, c2s4⟩ := c2.f5))
  all_goals
    go_wp2
    refine bodyPost_ret (v := .agg #[.bool (decide (s.num < 0)), .int .u64 (lo s.num.natAbs : Int), .string (mo s.num.natAbs), .int .u64 (lo ((qden s)) : Int), .string (mo ((qden s)))]) (by simp [results, Tryz.results31, go_sem, c2s0, c2s1, c2s2, c2s3, c2s4]) rfl ?_
    exact ⟨rfl, bset5 (bthen hB hc) (by omega) _ _ _ _ _⟩
set_option maxRecDepth 100000 in
set_option maxHeartbeats 1000000 in
theorem frac_over2 (n d : Int) (w : World) (h0 : -9223372036854775808 ≤ n) (h1 : n ≤ 9223372036854775807) (h2 : -9223372036854775808 ≤ d) (h3 : d ≤ 9223372036854775807) (hT : Tab w) :
    Calls Tryz.prog 39 #[.int .i64 n, .int .i64 d] w (Ret (.tuple #[qV (Rat.divInt n d), .bool (decide (d ≠ 0))]) w) := by
  have hof := fun w => whole_of n w h0 h1
  have hof2 := fun w => whole_of d w h2 h3
  have hmk := fun w (hT : Tab w) => frac_make n d w (Nat.le_trans (blen_small _ (by omega)) (by omega)) (Nat.le_trans (blen_small _ (by omega)) (by omega)) hT
  generalize Rat.divInt n d = q at *
  generalize decide (d ≠ 0) = db at *
  unfold qV at hmk ⊢
  unfold intV at hof hof2 hmk
  generalize decide (n < 0) = nn at *
  generalize decide (d < 0) = nd at *
  have HOF := Lib.hid hof
  have HOF2 := Lib.hid hof2
  have HMK := Lib.hid hmk
  clear hof hof2 hmk
  have b0 := Blk.new w  52 #[.bool false, .int .u64 0, .string ⟨#[]⟩, .int .u64 0, .string ⟨#[]⟩]; have hB := balloc1 w (.cells #[.bool false, .int .u64 0, .string ⟨#[]⟩, .int .u64 0, .string ⟨#[]⟩] 52); have hZ := Lib.hid (show (w.alloc (.cells #[.bool false, .int .u64 0, .string ⟨#[]⟩, .int .u64 0, .string ⟨#[]⟩] 52)).heap.size = w.heap.size + 1 from by simp)
  go_enter Tryz.func39, Tryz.ntmps39
  go_wp2_with fail
  generalize (w.alloc (.cells #[.bool false, .int .u64 0, .string ⟨#[]⟩, .int .u64 0, .string ⟨#[]⟩] 52)) = W at *
  refine (HOF.out W).mono ?_
  rintro e w1 ⟨rfl, hb1⟩
  go_wp2_with fail
  refine (HOF2.out w1).mono ?_
  rintro e w2 ⟨rfl, hb2⟩
  have hB2 := bthen (bthen hB hb1) hb2
  have tT := hT.next hB2
  go_wp2_with fail
  refine (HMK.out w2 tT).mono ?_
  rintro e w3 ⟨rfl, hb3⟩
  have hB3 := bthen hB2 hb3
  have b0 := b0.below (bthen (bthen hb1 hb2) hb3) b0.lt
  obtain ⟨b0q0, b0q1, b0q2, b0q3, b0q4, b0f0, b0f1, b0f2, b0f3, b0f4, b0s0, b0s1, b0s2, b0s3, b0s4⟩ := b0.f5
  go_wp2
  refine bodyPost_ret (v := .tuple #[.agg #[.bool (decide (q.num < 0)), .int .u64 (lo q.num.natAbs : Int), .string (mo q.num.natAbs), .int .u64 (lo ((qden q)) : Int), .string (mo ((qden q)))], .bool db]) (by simp [results, Tryz.results39, go_sem, b0s0, b0s1, b0s2, b0s3, b0s4]) rfl ?_
  exact ⟨rfl, bset5 hB3 (by omega) _ _ _ _ _⟩
end Go.Proofs.YtbjemjopcoajcaaGreatDoor
