import Derived.Test.YtecnjlcfoobepaaGreatDoorNatB
import Derived.Test.YtecnjlcfoobepaaGreatDoorNatAdd
import Derived.Test.YtecnjlcfoobepaaGreatDoorNatSub
namespace Go.Proofs.YtecnjlcfoobepaaGreatDoor
set_option maxRecDepth 100000
set_option maxHeartbeats 1000000
open Go.RowKit
set_option linter.unusedSimpArgs false
set_option linter.unusedVariables false
theorem signed_add_same (x y : Int) (h : decide (x < 0) = decide (y < 0)) : signed (decide (x < 0)) (x.natAbs + y.natAbs) = x + y := by
 unfold signed
 by_cases hx : x < 0
 ·rw [decide_eq_true hx, if_pos rfl]
  rw [decide_eq_true hx] at h
  have hy : y < 0 := of_decide_eq_true h.symm
  omega
 rw [decide_eq_false hx, if_neg (by decide)]
 rw [decide_eq_false hx] at h
 have hy : ¬ y < 0 := of_decide_eq_false h.symm
 omega
theorem signed_add_first (x y : Int) (h : decide (x < 0) ≠ decide (y < 0)) (hle : y.natAbs <= x.natAbs) : signed (decide (x < 0)) (x.natAbs - y.natAbs) = x + y := by
 unfold signed
 by_cases hx : x < 0
 ·rw [decide_eq_true hx, if_pos rfl]
  rw [decide_eq_true hx] at h
  have hy : ¬ y < 0 := fun hy => h (decide_eq_true hy).symm
  omega
 rw [decide_eq_false hx, if_neg (by decide)]
 rw [decide_eq_false hx] at h
 have hy : y < 0 := by
  by_cases h1 : y < 0
  ·exact h1
  exact absurd (decide_eq_false h1).symm h
 omega
theorem whole_add (x y : Int) (w : World) (hx : blen x.natAbs <= 1099511627776) (hy : blen y.natAbs <= 1099511627776) : Calls Tryz.prog 156 #[intV x, intV y] w (Ret (intV (x + y)) w) := by
 have hba := blen_add x.natAbs y.natAbs
 by_cases hs : decide (x < 0) = decide (y < 0)
 ·rw [<- signed_add_same x y hs]
  have hfr := fun w => whole_from (decide (x < 0)) (x.natAbs + y.natAbs) w (by omega)
  rw [intV_signed] at hfr
  rw [intV_signed]
  have hmu := fun w => nat_add x.natAbs y.natAbs w hx hy
  unfold natV at hfr hmu
  unfold intV
  have b0 := ((Blk.new w  54 #[.bool (decide (x < 0)), .int .u64 (lo x.natAbs : Int), .string (mo x.natAbs)]).alloc (.cells #[.bool (decide (y < 0)), .int .u64 (lo y.natAbs : Int), .string (mo y.natAbs)] 54)).alloc (.cells #[.bool false, .int .u64 0, .string ⟨#[]⟩] 54); have b1 := (Blk.new2 w (.cells #[.bool (decide (x < 0)), .int .u64 (lo x.natAbs : Int), .string (mo x.natAbs)] 54) 54 #[.bool (decide (y < 0)), .int .u64 (lo y.natAbs : Int), .string (mo y.natAbs)]).alloc (.cells #[.bool false, .int .u64 0, .string ⟨#[]⟩] 54); have b2 := Blk.new3 w (.cells #[.bool (decide (x < 0)), .int .u64 (lo x.natAbs : Int), .string (mo x.natAbs)] 54) (.cells #[.bool (decide (y < 0)), .int .u64 (lo y.natAbs : Int), .string (mo y.natAbs)] 54) 54 #[.bool false, .int .u64 0, .string ⟨#[]⟩]; have hB := balloc3 w (.cells #[.bool (decide (x < 0)), .int .u64 (lo x.natAbs : Int), .string (mo x.natAbs)] 54) (.cells #[.bool (decide (y < 0)), .int .u64 (lo y.natAbs : Int), .string (mo y.natAbs)] 54) (.cells #[.bool false, .int .u64 0, .string ⟨#[]⟩] 54); have hZ := lh (show (((w.alloc (.cells #[.bool (decide (x < 0)), .int .u64 (lo x.natAbs : Int), .string (mo x.natAbs)] 54)).alloc (.cells #[.bool (decide (y < 0)), .int .u64 (lo y.natAbs : Int), .string (mo y.natAbs)] 54)).alloc (.cells #[.bool false, .int .u64 0, .string ⟨#[]⟩] 54)).heap.size = w.heap.size + 1 + 1 + 1 from by simp)
  have HFR := lh hfr
  have HMU := lh hmu
  clear hfr hmu hba
  generalize x.natAbs + y.natAbs = N at *
  rw [<- hs] at b0 b1 b2 hB hZ
  rw [<- hs]
  clear hs
  obtain ⟨nx, hnx⟩ : ∃ nx, decide (x < 0) = nx := ⟨_, rfl⟩
  rw [hnx] at HFR
  rw [hnx] at b0 b1 b2 hB hZ
  rw [hnx]
  clear hnx
  have heq : (nx == nx) = true := by simp
  obtain ⟨q, hq⟩ : ∃ q, (nx && decide (0 < N)) = q := ⟨_, rfl⟩
  rw [hq] at HFR ⊢
  clear hq
  go_enter Tryz.func156, Tryz.ntmps156
  go_wp2_with fail
  generalize ((w.alloc (.cells #[.bool nx, .int .u64 (lo x.natAbs : Int), .string (mo x.natAbs)] 54)).alloc (.cells #[.bool nx, .int .u64 (lo y.natAbs : Int), .string (mo y.natAbs)] 54)).alloc (.cells #[.bool false, .int .u64 0, .string ⟨#[]⟩] 54) = W at *
  obtain ⟨b0q0, b0q1, b0q2⟩ := b0.c3; obtain ⟨b1q0, b1q1, b1q2⟩ := b1.c3
  have c0 := b0.drew
  have c1 := b1.drew
  have c2 := b2.drew
  have n1 : ¬ w.heap.size = w.heap.size + 1 + 1 := by omega
  have n2 : ¬ w.heap.size + 1 + 1 = w.heap.size := by omega
  go_region_held3 (fun w' => w'.cell? ⟨w.heap.size, 0, none⟩ = some (.bool nx) /\ w'.cell? ⟨w.heap.size, 1, none⟩ = some (.int .u64 (lo x.natAbs : Int)) /\ w'.cell? ⟨w.heap.size, 2, none⟩ = some (.string (mo x.natAbs)) /\ w'.cell? ⟨w.heap.size + 1, 1, none⟩ = some (.int .u64 (lo y.natAbs : Int)) /\ w'.cell? ⟨w.heap.size + 1, 2, none⟩ = some (.string (mo y.natAbs))) (go_keep) (first | (go_at_call 172; refine (HMU.out _).mono ?_; rintro e wa ⟨rfl, hba⟩; (try clear c0q0 c0q1 c0q2); have c0 := c0.below hba c0.lt; obtain ⟨c0q0, c0q1, c0q2⟩ := c0.c3; (try clear c1q0 c1q1 c1q2); have c1 := c1.below hba c1.lt; obtain ⟨c1q0, c1q1, c1q2⟩ := c1.c3; (try clear c2q0 c2q1 c2q2); have c2 := c2.below hba c2.lt; obtain ⟨c2q0, c2q1, c2q2⟩ := c2.c3) | (go_at_call 74; refine (HFR.out _).mono ?_; rintro e wf ⟨rfl, hbf⟩; (try clear c0q0 c0q1 c0q2 c0f0 c0f1 c0f2 c0s0 c0s1 c0s2); have c0 := c0.below hbf c0.lt; obtain ⟨c0q0, c0q1, c0q2, c0f0, c0f1, c0f2, c0s0, c0s1, c0s2⟩ := c0.f3; (try clear c1q0 c1q1 c1q2 c1f0 c1f1 c1f2 c1s0 c1s1 c1s2); have c1 := c1.below hbf c1.lt; obtain ⟨c1q0, c1q1, c1q2, c1f0, c1f1, c1f2, c1s0, c1s1, c1s2⟩ := c1.f3; (try clear c2q0 c2q1 c2q2 c2f0 c2f1 c2f2 c2s0 c2s1 c2s2); have c2 := c2.below hbf c2.lt; obtain ⟨c2q0, c2q1, c2q2, c2f0, c2f1, c2f2, c2s0, c2s1, c2s2⟩ := c2.f3))
  all_goals
   go_wp2
   refine bodyPost_ret (v := .agg #[.bool q, .int .u64 (lo N : Int), .string (mo N)]) (by simp [results, Tryz.results156, go_sem, c2s0, c2s1, c2s2]) rfl ?_
   exact ⟨rfl, bset3 (bthen (bthen hB (bdrew hba)) hbf) (by omega) _ _ _⟩
 have hne : (decide (x < 0) == decide (y < 0)) = false := by simpa using hs
 by_cases hle : y.natAbs <= x.natAbs
 ·rw [<- signed_add_first x y hs hle]
  have hbm := blen_mono (show x.natAbs - y.natAbs <= x.natAbs by omega)
  have hfr := fun w => whole_from (decide (x < 0)) (x.natAbs - y.natAbs) w (by omega)
  rw [intV_signed] at hfr
  rw [intV_signed]
  have hmu := fun w => nat_sub x.natAbs y.natAbs w hx hy
  unfold subV at hmu
  rw [if_neg (by omega)] at hmu
  unfold natV at hfr hmu
  unfold intV
  have b0 := ((Blk.new w  54 #[.bool (decide (x < 0)), .int .u64 (lo x.natAbs : Int), .string (mo x.natAbs)]).alloc (.cells #[.bool (decide (y < 0)), .int .u64 (lo y.natAbs : Int), .string (mo y.natAbs)] 54)).alloc (.cells #[.bool false, .int .u64 0, .string ⟨#[]⟩] 54); have b1 := (Blk.new2 w (.cells #[.bool (decide (x < 0)), .int .u64 (lo x.natAbs : Int), .string (mo x.natAbs)] 54) 54 #[.bool (decide (y < 0)), .int .u64 (lo y.natAbs : Int), .string (mo y.natAbs)]).alloc (.cells #[.bool false, .int .u64 0, .string ⟨#[]⟩] 54); have b2 := Blk.new3 w (.cells #[.bool (decide (x < 0)), .int .u64 (lo x.natAbs : Int), .string (mo x.natAbs)] 54) (.cells #[.bool (decide (y < 0)), .int .u64 (lo y.natAbs : Int), .string (mo y.natAbs)] 54) 54 #[.bool false, .int .u64 0, .string ⟨#[]⟩]; have hB := balloc3 w (.cells #[.bool (decide (x < 0)), .int .u64 (lo x.natAbs : Int), .string (mo x.natAbs)] 54) (.cells #[.bool (decide (y < 0)), .int .u64 (lo y.natAbs : Int), .string (mo y.natAbs)] 54) (.cells #[.bool false, .int .u64 0, .string ⟨#[]⟩] 54); have hZ := lh (show (((w.alloc (.cells #[.bool (decide (x < 0)), .int .u64 (lo x.natAbs : Int), .string (mo x.natAbs)] 54)).alloc (.cells #[.bool (decide (y < 0)), .int .u64 (lo y.natAbs : Int), .string (mo y.natAbs)] 54)).alloc (.cells #[.bool false, .int .u64 0, .string ⟨#[]⟩] 54)).heap.size = w.heap.size + 1 + 1 + 1 from by simp)
  have HFR := lh hfr
  have HMU := lh hmu
  clear hfr hmu hba hbm
  generalize x.natAbs - y.natAbs = N at *
  clear hs
  obtain ⟨nx, hnx⟩ : ∃ nx, decide (x < 0) = nx := ⟨_, rfl⟩
  obtain ⟨ny, hny⟩ : ∃ ny, decide (y < 0) = ny := ⟨_, rfl⟩
  rw [hnx] at HFR
  rw [hnx, hny] at b0 b1 b2 hB hZ hne
  rw [hnx, hny]
  clear hnx hny
  obtain ⟨q, hq⟩ : ∃ q, (nx && decide (0 < N)) = q := ⟨_, rfl⟩
  rw [hq] at HFR ⊢
  clear hq
  go_enter Tryz.func156, Tryz.ntmps156
  go_wp2_with fail
  generalize ((w.alloc (.cells #[.bool nx, .int .u64 (lo x.natAbs : Int), .string (mo x.natAbs)] 54)).alloc (.cells #[.bool ny, .int .u64 (lo y.natAbs : Int), .string (mo y.natAbs)] 54)).alloc (.cells #[.bool false, .int .u64 0, .string ⟨#[]⟩] 54) = W at *
  refine (HMU.out W).mono ?_
  rintro e w1 ⟨rfl, hb1⟩
  have hB1 := bthen hB hb1
  (try clear b0q0 b0q1 b0q2); have b0 := b0.below hb1 b0.lt; obtain ⟨b0q0, b0q1, b0q2⟩ := b0.c3; (try clear b1q0 b1q1 b1q2); have b1 := b1.below hb1 b1.lt; obtain ⟨b1q0, b1q1, b1q2⟩ := b1.c3
  have b2 := b2.below hb1 b2.lt
  have bq := Blk.new w1 52 #[.int .u64 (lo N : Int), .string (mo N)]
  have b0 := b0.alloc (.cells #[.int .u64 (lo N : Int), .string (mo N)] 52)
  have b2 := b2.alloc (.cells #[.int .u64 (lo N : Int), .string (mo N)] 52)
  have hB2 := bthen hB1 (balloc1 w1 (.cells #[.int .u64 (lo N : Int), .string (mo N)] 52))
  obtain ⟨b0q0, b0q1, b0q2⟩ := b0.c3; obtain ⟨bqq0, bqq1⟩ := bq.c2
  go_wp2_with fail
  refine (HFR.out _).mono ?_
  rintro e w3 ⟨rfl, hb3⟩
  have hB3 := bthen hB2 hb3
  (try clear b2q0 b2q1 b2q2 b2f0 b2f1 b2f2 b2s0 b2s1 b2s2); have b2 := b2.below hb3 b2.lt; obtain ⟨b2q0, b2q1, b2q2, b2f0, b2f1, b2f2, b2s0, b2s1, b2s2⟩ := b2.f3
  go_wp2
  refine bodyPost_ret (v := .agg #[.bool q, .int .u64 (lo N : Int), .string (mo N)]) (by simp [results, Tryz.results156, go_sem, b2s0, b2s1, b2s2]) rfl ?_
  exact ⟨rfl, bset3 hB3 (by omega) _ _ _⟩
 have hs2 : decide (y < 0) ≠ decide (x < 0) := fun h => hs h.symm
 have hsw := signed_add_first y x hs2 (by omega)
 rw [Int.add_comm] at hsw
 rw [<- hsw]
 have hbm := blen_mono (show y.natAbs - x.natAbs <= y.natAbs by omega)
 have hfr := fun w => whole_from (decide (y < 0)) (y.natAbs - x.natAbs) w (by omega)
 rw [intV_signed] at hfr
 rw [intV_signed]
 have hmu := fun w => nat_sub x.natAbs y.natAbs w hx hy
 have hmu2 := fun w => nat_sub y.natAbs x.natAbs w hy hx
 unfold subV at hmu hmu2
 rw [if_pos (by omega), natV_zero] at hmu
 rw [if_neg (by omega)] at hmu2
 unfold natV at hfr hmu hmu2
 unfold intV
 have b0 := ((Blk.new w  54 #[.bool (decide (x < 0)), .int .u64 (lo x.natAbs : Int), .string (mo x.natAbs)]).alloc (.cells #[.bool (decide (y < 0)), .int .u64 (lo y.natAbs : Int), .string (mo y.natAbs)] 54)).alloc (.cells #[.bool false, .int .u64 0, .string ⟨#[]⟩] 54); have b1 := (Blk.new2 w (.cells #[.bool (decide (x < 0)), .int .u64 (lo x.natAbs : Int), .string (mo x.natAbs)] 54) 54 #[.bool (decide (y < 0)), .int .u64 (lo y.natAbs : Int), .string (mo y.natAbs)]).alloc (.cells #[.bool false, .int .u64 0, .string ⟨#[]⟩] 54); have b2 := Blk.new3 w (.cells #[.bool (decide (x < 0)), .int .u64 (lo x.natAbs : Int), .string (mo x.natAbs)] 54) (.cells #[.bool (decide (y < 0)), .int .u64 (lo y.natAbs : Int), .string (mo y.natAbs)] 54) 54 #[.bool false, .int .u64 0, .string ⟨#[]⟩]; have hB := balloc3 w (.cells #[.bool (decide (x < 0)), .int .u64 (lo x.natAbs : Int), .string (mo x.natAbs)] 54) (.cells #[.bool (decide (y < 0)), .int .u64 (lo y.natAbs : Int), .string (mo y.natAbs)] 54) (.cells #[.bool false, .int .u64 0, .string ⟨#[]⟩] 54); have hZ := lh (show (((w.alloc (.cells #[.bool (decide (x < 0)), .int .u64 (lo x.natAbs : Int), .string (mo x.natAbs)] 54)).alloc (.cells #[.bool (decide (y < 0)), .int .u64 (lo y.natAbs : Int), .string (mo y.natAbs)] 54)).alloc (.cells #[.bool false, .int .u64 0, .string ⟨#[]⟩] 54)).heap.size = w.heap.size + 1 + 1 + 1 from by simp)
 have HFR := lh hfr
 have HMU := lh hmu
 have HMU2 := lh hmu2
 clear hfr hmu hba hbm hsw hmu2
 generalize y.natAbs - x.natAbs = N at *
 clear hs hs2
 obtain ⟨nx, hnx⟩ : ∃ nx, decide (x < 0) = nx := ⟨_, rfl⟩
 obtain ⟨ny, hny⟩ : ∃ ny, decide (y < 0) = ny := ⟨_, rfl⟩
 rw [hny] at HFR
 rw [hnx, hny] at b0 b1 b2 hB hZ hne
 rw [hnx, hny]
 clear hnx hny
 obtain ⟨q, hq⟩ : ∃ q, (ny && decide (0 < N)) = q := ⟨_, rfl⟩
 rw [hq] at HFR ⊢
 clear hq
 go_enter Tryz.func156, Tryz.ntmps156
 go_wp2_with fail
 generalize ((w.alloc (.cells #[.bool nx, .int .u64 (lo x.natAbs : Int), .string (mo x.natAbs)] 54)).alloc (.cells #[.bool ny, .int .u64 (lo y.natAbs : Int), .string (mo y.natAbs)] 54)).alloc (.cells #[.bool false, .int .u64 0, .string ⟨#[]⟩] 54) = W at *
 refine (HMU.out W).mono ?_
 rintro e w1 ⟨rfl, hb1⟩
 have hB1 := bthen hB hb1
 (try clear b0q0 b0q1 b0q2); have b0 := b0.below hb1 b0.lt; obtain ⟨b0q0, b0q1, b0q2⟩ := b0.c3; (try clear b1q0 b1q1 b1q2); have b1 := b1.below hb1 b1.lt; obtain ⟨b1q0, b1q1, b1q2⟩ := b1.c3
 have b2 := b2.below hb1 b2.lt
 have b0 := b0.alloc (.cells #[.int .u64 0, .string ⟨#[]⟩] 52)
 have b1 := b1.alloc (.cells #[.int .u64 0, .string ⟨#[]⟩] 52)
 have b2 := b2.alloc (.cells #[.int .u64 0, .string ⟨#[]⟩] 52)
 have hB2 := bthen hB1 (balloc1 w1 (.cells #[.int .u64 0, .string ⟨#[]⟩] 52))
 clear b0q0 b0q1 b0q2 b1q0 b1q1 b1q2
 obtain ⟨b0q0, b0q1, b0q2⟩ := b0.c3; obtain ⟨b1q0, b1q1, b1q2⟩ := b1.c3
 go_wp2_with fail
 refine (HMU2.out _).mono ?_
 rintro e w3 ⟨rfl, hb3⟩
 have hB3 := bthen hB2 hb3
 (try clear b1q0 b1q1 b1q2); have b1 := b1.below hb3 b1.lt; obtain ⟨b1q0, b1q1, b1q2⟩ := b1.c3
 have b2 := b2.below hb3 b2.lt
 have bq := Blk.new w3 52 #[.int .u64 (lo N : Int), .string (mo N)]
 have b1 := b1.alloc (.cells #[.int .u64 (lo N : Int), .string (mo N)] 52)
 have b2 := b2.alloc (.cells #[.int .u64 (lo N : Int), .string (mo N)] 52)
 have hB4 := bthen hB3 (balloc1 w3 (.cells #[.int .u64 (lo N : Int), .string (mo N)] 52))
 clear b1q0 b1q1 b1q2 b0q0 b0q1 b0q2
 obtain ⟨b1q0, b1q1, b1q2⟩ := b1.c3; obtain ⟨bqq0, bqq1⟩ := bq.c2
 go_wp2_with fail
 refine (HFR.out _).mono ?_
 rintro e w5 ⟨rfl, hb5⟩
 have hB5 := bthen hB4 hb5
 (try clear b2q0 b2q1 b2q2 b2f0 b2f1 b2f2 b2s0 b2s1 b2s2); have b2 := b2.below hb5 b2.lt; obtain ⟨b2q0, b2q1, b2q2, b2f0, b2f1, b2f2, b2s0, b2s1, b2s2⟩ := b2.f3
 go_wp2
 refine bodyPost_ret (v := .agg #[.bool q, .int .u64 (lo N : Int), .string (mo N)]) (by simp [results, Tryz.results156, go_sem, b2s0, b2s1, b2s2]) rfl ?_
 exact ⟨rfl, bset3 hB5 (by omega) _ _ _⟩
end Go.Proofs.YtecnjlcfoobepaaGreatDoor
