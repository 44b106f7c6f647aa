import Derived.Test.YtacbcaebaomglaaGreatDoorNatAdd
import Derived.Test.YtacbcaebaomglaaGreatDoorNatSub
namespace Go.Proofs.YtacbcaebaomglaaGreatDoor
set_option maxRecDepth 100000
set_option maxHeartbeats 1000000
open Go.RowKit
set_option linter.all false
theorem Jc0 (x y : Int) (h : decide (x < 0) = decide (y < 0)) : signed (decide (x < 0)) (x.natAbs + y.natAbs) = x + y := by
 unfold signed
 by_cases hx : x < 0
 ·rw [decide_eq_true hx, if_pos rfl]
  rw [decide_eq_true hx] at h
  have hy : y < 0 := of_decide_eq_true h.symm
  omega
 rw [decide_eq_false hx, if_neg (by decide)]
 rw [decide_eq_false hx] at h
 have hy : ¬ y < 0 := of_decide_eq_false h.symm
 omega
theorem Uu (x y : Int) (h : decide (x < 0) ≠ decide (y < 0)) (bH : y.natAbs <= x.natAbs) : signed (decide (x < 0)) (x.natAbs - y.natAbs) = x + y := by
 unfold signed
 by_cases hx : x < 0
 ·rw [decide_eq_true hx, if_pos rfl]
  rw [decide_eq_true hx] at h
  have hy : ¬ y < 0 := fun hy => h (decide_eq_true hy).symm
  omega
 rw [decide_eq_false hx, if_neg (by decide)]
 rw [decide_eq_false hx] at h
 have hy : y < 0 := by
  by_cases h1 : y < 0
  ·exact h1
  exact absurd (decide_eq_false h1).symm h
 omega
theorem Je8 (x y : Int) (w : World) (hx : Je x.natAbs <= 1099511627776) (hy : Je y.natAbs <= 1099511627776) : Calls Tryz.prog 99 #[Jx x, Jx y] w (Ret (Jx (x + y)) w) := by
 have p9 := Jej x.natAbs y.natAbs
 by_cases hs : decide (x < 0) = decide (y < 0)
 ·rw [<- Jc0 x y hs]
  have o0 := fun w => Qc (decide (x < 0)) (x.natAbs + y.natAbs) w (by omega)
  rw [Qw] at o0
  rw [Qw]
  have j9 := fun w => Jnh x.natAbs y.natAbs w hx hy
  unfold Jh at o0 j9
  unfold Jx
  obtain ⟨b0, b1, b2, hB, hZ⟩ := bx3 w 63 #[.bool (decide (x < 0)), .int .u64 (lo x.natAbs : Int), .string (mo x.natAbs)] 63 #[.bool (decide (y < 0)), .int .u64 (lo y.natAbs : Int), .string (mo y.natAbs)] 63 #[.bool false, .int .u64 0, .string ⟨#[]⟩]
  have HFR := lh o0
  have HMU := lh j9
  clear o0 j9 p9
  generalize x.natAbs + y.natAbs = N at *
  rw [<- hs] at b0 b1 b2 hB hZ
  rw [<- hs]
  clear hs
  obtain ⟨nx, o6⟩ : ∃ nx, decide (x < 0) = nx := ⟨_, rfl⟩
  rw [o6] at HFR
  rw [o6] at b0 b1 b2 hB hZ
  rw [o6]
  clear o6
  have bN : (nx == nx) = true := by simp
  obtain ⟨q, hq⟩ : ∃ q, (nx && decide (0 < N)) = q := ⟨_, rfl⟩
  rw [hq] at HFR ⊢
  clear hq
  go_enter Tryz.func99, Tryz.ntmps99
  go_wp2_with fail
  generalize ((w.alloc (.cells #[.bool nx, .int .u64 (lo x.natAbs : Int), .string (mo x.natAbs)] 63)).alloc (.cells #[.bool nx, .int .u64 (lo y.natAbs : Int), .string (mo y.natAbs)] 63)).alloc (.cells #[.bool false, .int .u64 0, .string ⟨#[]⟩] 63) = W at *
  obtain ⟨j6, j7, j8⟩ := b0.c3; obtain ⟨e8, e9, j0⟩ := b1.c3
  have c0 := b0.drew
  have c1 := b1.drew
  have c2 := b2.drew
  have n1 := neA w.heap.size
  have n2 := neB w.heap.size
  go_region_held3 (fun w' => w'.cell? ⟨w.heap.size, 0, none⟩ = some (.bool nx) /\ w'.cell? ⟨w.heap.size, 1, none⟩ = some (.int .u64 (lo x.natAbs : Int)) /\ w'.cell? ⟨w.heap.size, 2, none⟩ = some (.string (mo x.natAbs)) /\ w'.cell? ⟨w.heap.size + 1, 1, none⟩ = some (.int .u64 (lo y.natAbs : Int)) /\ w'.cell? ⟨w.heap.size + 1, 2, none⟩ = some (.string (mo y.natAbs))) (go_keep) (first | (go_at_call 137; refine (HMU.out _).mono ?_; rintro e wa ⟨rfl, p9⟩; (try clear s9 t7 t8); obtain ⟨c0, s9, t7, t8⟩ := c0.zc3 p9; (try clear u4 x7 x8); obtain ⟨c1, u4, x7, x8⟩ := c1.zc3 p9; (try clear x9 y8 y9); obtain ⟨c2, x9, y8, y9⟩ := c2.zc3 p9) | (go_at_call 67; refine (HFR.out _).mono ?_; rintro e wf ⟨rfl, aK⟩; (try clear s9 t7 t8 aL aM aN aO aP aQ); obtain ⟨c0, s9, t7, t8, aL, aM, aN, aO, aP, aQ⟩ := c0.zf3 aK; (try clear u4 x7 x8 aR aS aT aU aV aW); obtain ⟨c1, u4, x7, x8, aR, aS, aT, aU, aV, aW⟩ := c1.zf3 aK; (try clear x9 y8 y9 aX aY aZ aH aI aJ); obtain ⟨c2, x9, y8, y9, aX, aY, aZ, aH, aI, aJ⟩ := c2.zf3 aK))
  all_goals
   go_wp2
   refine bodyPost_ret (v := .agg #[.bool q, .int .u64 (lo N : Int), .string (mo N)]) (by simp [results, Tryz.results99, go_sem, aH, aI, aJ]) rfl ?_
   exact ⟨rfl, Ki (Ja (Ja hB (Ja9 p9)) aK) (by omega) _ _ _⟩
 have bI : (decide (x < 0) == decide (y < 0)) = false := by simpa using hs
 by_cases bH : y.natAbs <= x.natAbs
 ·rw [<- Uu x y hs bH]
  have bA := Jz (show x.natAbs - y.natAbs <= x.natAbs by omega)
  have o0 := fun w => Qc (decide (x < 0)) (x.natAbs - y.natAbs) w (by omega)
  rw [Qw] at o0
  rw [Qw]
  have j9 := fun w => Jgh x.natAbs y.natAbs w hx hy
  unfold Jm6 at j9
  rw [if_neg (by omega)] at j9
  unfold Jh at o0 j9
  unfold Jx
  obtain ⟨b0, b1, b2, hB, hZ⟩ := bx3 w 63 #[.bool (decide (x < 0)), .int .u64 (lo x.natAbs : Int), .string (mo x.natAbs)] 63 #[.bool (decide (y < 0)), .int .u64 (lo y.natAbs : Int), .string (mo y.natAbs)] 63 #[.bool false, .int .u64 0, .string ⟨#[]⟩]
  have HFR := lh o0
  have HMU := lh j9
  clear o0 j9 p9 bA
  generalize x.natAbs - y.natAbs = N at *
  clear hs
  obtain ⟨nx, o6⟩ : ∃ nx, decide (x < 0) = nx := ⟨_, rfl⟩
  obtain ⟨ny, q8⟩ : ∃ ny, decide (y < 0) = ny := ⟨_, rfl⟩
  rw [o6] at HFR
  rw [o6, q8] at b0 b1 b2 hB hZ bI
  rw [o6, q8]
  clear o6 q8
  obtain ⟨q, hq⟩ : ∃ q, (nx && decide (0 < N)) = q := ⟨_, rfl⟩
  rw [hq] at HFR ⊢
  clear hq
  go_enter Tryz.func99, Tryz.ntmps99
  go_wp2_with fail
  generalize ((w.alloc (.cells #[.bool nx, .int .u64 (lo x.natAbs : Int), .string (mo x.natAbs)] 63)).alloc (.cells #[.bool ny, .int .u64 (lo y.natAbs : Int), .string (mo y.natAbs)] 63)).alloc (.cells #[.bool false, .int .u64 0, .string ⟨#[]⟩] 63) = W at *
  refine (HMU.out W).mono ?_
  rintro e w1 ⟨rfl, p8⟩
  have bB := Ja hB p8
  (try clear j6 j7 j8); obtain ⟨b0, j6, j7, j8⟩ := b0.zc3 p8; (try clear e8 e9 j0); obtain ⟨b1, e8, e9, j0⟩ := b1.zc3 p8
  have b2 := b2.below p8 b2.lt
  have bq := Blk.new w1 61 #[.int .u64 (lo N : Int), .string (mo N)]
  have b0 := b0.alloc (.cells #[.int .u64 (lo N : Int), .string (mo N)] 61)
  have b2 := b2.alloc (.cells #[.int .u64 (lo N : Int), .string (mo N)] 61)
  have bC := Ja bB (Jb w1 (.cells #[.int .u64 (lo N : Int), .string (mo N)] 61))
  obtain ⟨j6, j7, j8⟩ := b0.c3; obtain ⟨bD, bE⟩ := bq.c2
  go_wp2_with fail
  refine (HFR.out _).mono ?_
  rintro e w3 ⟨rfl, aG⟩
  have bF := Ja bC aG
  (try clear aA aB aC aD aE aF o7 o8 o9); obtain ⟨b2, aA, aB, aC, aD, aE, aF, o7, o8, o9⟩ := b2.zf3 aG
  go_wp2
  refine bodyPost_ret (v := .agg #[.bool q, .int .u64 (lo N : Int), .string (mo N)]) (by simp [results, Tryz.results99, go_sem, o7, o8, o9]) rfl ?_
  exact ⟨rfl, Ki bF (by omega) _ _ _⟩
 have bJ : decide (y < 0) ≠ decide (x < 0) := fun h => hs h.symm
 have bG := Uu y x bJ (by omega)
 rw [Int.add_comm] at bG
 rw [<- bG]
 have bA := Jz (show y.natAbs - x.natAbs <= y.natAbs by omega)
 have o0 := fun w => Qc (decide (y < 0)) (y.natAbs - x.natAbs) w (by omega)
 rw [Qw] at o0
 rw [Qw]
 have j9 := fun w => Jgh x.natAbs y.natAbs w hx hy
 have p7 := fun w => Jgh y.natAbs x.natAbs w hy hx
 unfold Jm6 at j9 p7
 rw [if_pos (by omega), Jce] at j9
 rw [if_neg (by omega)] at p7
 unfold Jh at o0 j9 p7
 unfold Jx
 obtain ⟨b0, b1, b2, hB, hZ⟩ := bx3 w 63 #[.bool (decide (x < 0)), .int .u64 (lo x.natAbs : Int), .string (mo x.natAbs)] 63 #[.bool (decide (y < 0)), .int .u64 (lo y.natAbs : Int), .string (mo y.natAbs)] 63 #[.bool false, .int .u64 0, .string ⟨#[]⟩]
 have HFR := lh o0
 have HMU := lh j9
 have HMU2 := lh p7
 clear o0 j9 p9 bA bG p7
 generalize y.natAbs - x.natAbs = N at *
 clear hs bJ
 obtain ⟨nx, o6⟩ : ∃ nx, decide (x < 0) = nx := ⟨_, rfl⟩
 obtain ⟨ny, q8⟩ : ∃ ny, decide (y < 0) = ny := ⟨_, rfl⟩
 rw [q8] at HFR
 rw [o6, q8] at b0 b1 b2 hB hZ bI
 rw [o6, q8]
 clear o6 q8
 obtain ⟨q, hq⟩ : ∃ q, (ny && decide (0 < N)) = q := ⟨_, rfl⟩
 rw [hq] at HFR ⊢
 clear hq
 go_enter Tryz.func99, Tryz.ntmps99
 go_wp2_with fail
 generalize ((w.alloc (.cells #[.bool nx, .int .u64 (lo x.natAbs : Int), .string (mo x.natAbs)] 63)).alloc (.cells #[.bool ny, .int .u64 (lo y.natAbs : Int), .string (mo y.natAbs)] 63)).alloc (.cells #[.bool false, .int .u64 0, .string ⟨#[]⟩] 63) = W at *
 refine (HMU.out W).mono ?_
 rintro e w1 ⟨rfl, p8⟩
 have bB := Ja hB p8
 (try clear j6 j7 j8); obtain ⟨b0, j6, j7, j8⟩ := b0.zc3 p8; (try clear e8 e9 j0); obtain ⟨b1, e8, e9, j0⟩ := b1.zc3 p8
 have b2 := b2.below p8 b2.lt
 have b0 := b0.alloc (.cells #[.int .u64 0, .string ⟨#[]⟩] 61)
 have b1 := b1.alloc (.cells #[.int .u64 0, .string ⟨#[]⟩] 61)
 have b2 := b2.alloc (.cells #[.int .u64 0, .string ⟨#[]⟩] 61)
 have bC := Ja bB (Jb w1 (.cells #[.int .u64 0, .string ⟨#[]⟩] 61))
 clear j6 j7 j8 e8 e9 j0
 obtain ⟨j6, j7, j8⟩ := b0.c3; obtain ⟨e8, e9, j0⟩ := b1.c3
 go_wp2_with fail
 refine (HMU2.out _).mono ?_
 rintro e w3 ⟨rfl, aG⟩
 have bF := Ja bC aG
 (try clear e8 e9 j0); obtain ⟨b1, e8, e9, j0⟩ := b1.zc3 aG
 have b2 := b2.below aG b2.lt
 have bq := Blk.new w3 61 #[.int .u64 (lo N : Int), .string (mo N)]
 have b1 := b1.alloc (.cells #[.int .u64 (lo N : Int), .string (mo N)] 61)
 have b2 := b2.alloc (.cells #[.int .u64 (lo N : Int), .string (mo N)] 61)
 have bL := Ja bF (Jb w3 (.cells #[.int .u64 (lo N : Int), .string (mo N)] 61))
 clear e8 e9 j0 j6 j7 j8
 obtain ⟨e8, e9, j0⟩ := b1.c3; obtain ⟨bD, bE⟩ := bq.c2
 go_wp2_with fail
 refine (HFR.out _).mono ?_
 rintro e w5 ⟨rfl, bK⟩
 have bM := Ja bL bK
 (try clear aA aB aC aD aE aF o7 o8 o9); obtain ⟨b2, aA, aB, aC, aD, aE, aF, o7, o8, o9⟩ := b2.zf3 bK
 go_wp2
 refine bodyPost_ret (v := .agg #[.bool q, .int .u64 (lo N : Int), .string (mo N)]) (by simp [results, Tryz.results99, go_sem, o7, o8, o9]) rfl ?_
 exact ⟨rfl, Ki bM (by omega) _ _ _⟩
