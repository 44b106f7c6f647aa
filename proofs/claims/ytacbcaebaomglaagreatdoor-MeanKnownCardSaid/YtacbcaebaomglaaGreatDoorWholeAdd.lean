import Derived.Test.YtacbcaebaomglaaGreatDoorNatAdd
import Derived.Test.YtacbcaebaomglaaGreatDoorNatSub
namespace Go.Proofs.YtacbcaebaomglaaGreatDoor
set_option maxRecDepth 100000
set_option maxHeartbeats 1000000
open Go.RowKit
set_option linter.all false
theorem Ja6 (x y : Int) (h : decide (x < 0) = decide (y < 0)) : signed (decide (x < 0)) (x.natAbs + y.natAbs) = x + y := by
 unfold signed
 by_cases hx : x < 0
 ·rw [decide_eq_true hx, if_pos rfl]
  rw [decide_eq_true hx] at h
  have hy : y < 0 := of_decide_eq_true h.symm
  omega
 rw [decide_eq_false hx, if_neg (by decide)]
 rw [decide_eq_false hx] at h
 have hy : ¬ y < 0 := of_decide_eq_false h.symm
 omega
theorem Kj (x y : Int) (h : decide (x < 0) ≠ decide (y < 0)) (bC : y.natAbs <= x.natAbs) : signed (decide (x < 0)) (x.natAbs - y.natAbs) = x + y := by
 unfold signed
 by_cases hx : x < 0
 ·rw [decide_eq_true hx, if_pos rfl]
  rw [decide_eq_true hx] at h
  have hy : ¬ y < 0 := fun hy => h (decide_eq_true hy).symm
  omega
 rw [decide_eq_false hx, if_neg (by decide)]
 rw [decide_eq_false hx] at h
 have hy : y < 0 := by
  by_cases h1 : y < 0
  ·exact h1
  exact absurd (decide_eq_false h1).symm h
 omega
theorem Jc0 (x y : Int) (w : World) (hx : Je x.natAbs <= 1099511627776) (hy : Je y.natAbs <= 1099511627776) : Calls Tryz.prog 99 #[Js x, Js y] w (Ret (Js (x + y)) w) := by
 have p0 := Jfv x.natAbs y.natAbs
 by_cases hs : decide (x < 0) = decide (y < 0)
 ·rw [<- Ja6 x y hs]
  have l5 := fun w => Qa (decide (x < 0)) (x.natAbs + y.natAbs) w (by omega)
  rw [Qo] at l5
  rw [Qo]
  have j9 := fun w => Jkj x.natAbs y.natAbs w hx hy
  unfold Jh at l5 j9
  unfold Js
  obtain ⟨b0, b1, b2, hB, hZ⟩ := bx3 w 63 #[.bool (decide (x < 0)), .int .u64 (lo x.natAbs : Int), .string (mo x.natAbs)] 63 #[.bool (decide (y < 0)), .int .u64 (lo y.natAbs : Int), .string (mo y.natAbs)] 63 #[.bool false, .int .u64 0, .string ⟨#[]⟩]
  have HFR := lh l5
  have HMU := lh j9
  clear l5 j9 p0
  generalize x.natAbs + y.natAbs = N at *
  rw [<- hs] at b0 b1 b2 hB hZ
  rw [<- hs]
  clear hs
  obtain ⟨nx, l7⟩ : ∃ nx, decide (x < 0) = nx := ⟨_, rfl⟩
  rw [l7] at HFR
  rw [l7] at b0 b1 b2 hB hZ
  rw [l7]
  clear l7
  have bI : (nx == nx) = true := by simp
  obtain ⟨q, hq⟩ : ∃ q, (nx && decide (0 < N)) = q := ⟨_, rfl⟩
  rw [hq] at HFR ⊢
  clear hq
  go_enter Tryz.func99, Tryz.ntmps99
  go_wp2_with fail
  generalize ((w.alloc (.cells #[.bool nx, .int .u64 (lo x.natAbs : Int), .string (mo x.natAbs)] 63)).alloc (.cells #[.bool nx, .int .u64 (lo y.natAbs : Int), .string (mo y.natAbs)] 63)).alloc (.cells #[.bool false, .int .u64 0, .string ⟨#[]⟩] 63) = W at *
  obtain ⟨j6, j7, j8⟩ := b0.c3; obtain ⟨e8, e9, j0⟩ := b1.c3
  have c0 := b0.drew
  have c1 := b1.drew
  have c2 := b2.drew
  have n1 := neA w.heap.size
  have n2 := neB w.heap.size
  go_region_held3 (fun w' => w'.cell? ⟨w.heap.size, 0, none⟩ = some (.bool nx) /\ w'.cell? ⟨w.heap.size, 1, none⟩ = some (.int .u64 (lo x.natAbs : Int)) /\ w'.cell? ⟨w.heap.size, 2, none⟩ = some (.string (mo x.natAbs)) /\ w'.cell? ⟨w.heap.size + 1, 1, none⟩ = some (.int .u64 (lo y.natAbs : Int)) /\ w'.cell? ⟨w.heap.size + 1, 2, none⟩ = some (.string (mo y.natAbs))) (go_keep) (first | (go_at_call 137; refine (HMU.out _).mono ?_; rintro e wa ⟨rfl, p0⟩; (try clear p8 p9 q8); obtain ⟨c0, p8, p9, q8⟩ := c0.zc3 p0; (try clear q9 s9 t7); obtain ⟨c1, q9, s9, t7⟩ := c1.zc3 p0; (try clear t8 u4 u5); obtain ⟨c2, t8, u4, u5⟩ := c2.zc3 p0) | (go_at_call 67; refine (HFR.out _).mono ?_; rintro e wf ⟨rfl, aF⟩; (try clear p8 p9 q8 aG aH aI aJ aK aL); obtain ⟨c0, p8, p9, q8, aG, aH, aI, aJ, aK, aL⟩ := c0.zf3 aF; (try clear q9 s9 t7 aM aN aO aP aQ aR); obtain ⟨c1, q9, s9, t7, aM, aN, aO, aP, aQ, aR⟩ := c1.zf3 aF; (try clear t8 u4 u5 aS aT aU aC aD aE); obtain ⟨c2, t8, u4, u5, aS, aT, aU, aC, aD, aE⟩ := c2.zf3 aF))
  all_goals
   go_wp2
   refine bodyPost_ret (v := .agg #[.bool q, .int .u64 (lo N : Int), .string (mo N)]) (by simp [results, Tryz.results99, go_sem, aC, aD, aE]) rfl ?_
   exact ⟨rfl, Yf (Ja (Ja hB (Vn p0)) aF) (by omega) _ _ _⟩
 have bD : (decide (x < 0) == decide (y < 0)) = false := by simpa using hs
 by_cases bC : y.natAbs <= x.natAbs
 ·rw [<- Kj x y hs bC]
  have aV := Jw (show x.natAbs - y.natAbs <= x.natAbs by omega)
  have l5 := fun w => Qa (decide (x < 0)) (x.natAbs - y.natAbs) w (by omega)
  rw [Qo] at l5
  rw [Qo]
  have j9 := fun w => Jd1 x.natAbs y.natAbs w hx hy
  unfold Jkd at j9
  rw [if_neg (by omega)] at j9
  unfold Jh at l5 j9
  unfold Js
  obtain ⟨b0, b1, b2, hB, hZ⟩ := bx3 w 63 #[.bool (decide (x < 0)), .int .u64 (lo x.natAbs : Int), .string (mo x.natAbs)] 63 #[.bool (decide (y < 0)), .int .u64 (lo y.natAbs : Int), .string (mo y.natAbs)] 63 #[.bool false, .int .u64 0, .string ⟨#[]⟩]
  have HFR := lh l5
  have HMU := lh j9
  clear l5 j9 p0 aV
  generalize x.natAbs - y.natAbs = N at *
  clear hs
  obtain ⟨nx, l7⟩ : ∃ nx, decide (x < 0) = nx := ⟨_, rfl⟩
  obtain ⟨ny, p7⟩ : ∃ ny, decide (y < 0) = ny := ⟨_, rfl⟩
  rw [l7] at HFR
  rw [l7, p7] at b0 b1 b2 hB hZ bD
  rw [l7, p7]
  clear l7 p7
  obtain ⟨q, hq⟩ : ∃ q, (nx && decide (0 < N)) = q := ⟨_, rfl⟩
  rw [hq] at HFR ⊢
  clear hq
  go_enter Tryz.func99, Tryz.ntmps99
  go_wp2_with fail
  generalize ((w.alloc (.cells #[.bool nx, .int .u64 (lo x.natAbs : Int), .string (mo x.natAbs)] 63)).alloc (.cells #[.bool ny, .int .u64 (lo y.natAbs : Int), .string (mo y.natAbs)] 63)).alloc (.cells #[.bool false, .int .u64 0, .string ⟨#[]⟩] 63) = W at *
  refine (HMU.out W).mono ?_
  rintro e w1 ⟨rfl, o9⟩
  have aW := Ja hB o9
  (try clear j6 j7 j8); obtain ⟨b0, j6, j7, j8⟩ := b0.zc3 o9; (try clear e8 e9 j0); obtain ⟨b1, e8, e9, j0⟩ := b1.zc3 o9
  have b2 := b2.below o9 b2.lt
  have bq := Blk.new w1 61 #[.int .u64 (lo N : Int), .string (mo N)]
  have b0 := b0.alloc (.cells #[.int .u64 (lo N : Int), .string (mo N)] 61)
  have b2 := b2.alloc (.cells #[.int .u64 (lo N : Int), .string (mo N)] 61)
  have aX := Ja aW (Jb w1 (.cells #[.int .u64 (lo N : Int), .string (mo N)] 61))
  obtain ⟨j6, j7, j8⟩ := b0.c3; obtain ⟨aY, aZ⟩ := bq.c2
  go_wp2_with fail
  refine (HFR.out _).mono ?_
  rintro e w3 ⟨rfl, aB⟩
  have bA := Ja aX aB
  (try clear x7 x8 x9 y8 y9 aA o0 o6 o7); obtain ⟨b2, x7, x8, x9, y8, y9, aA, o0, o6, o7⟩ := b2.zf3 aB
  go_wp2
  refine bodyPost_ret (v := .agg #[.bool q, .int .u64 (lo N : Int), .string (mo N)]) (by simp [results, Tryz.results99, go_sem, o0, o6, o7]) rfl ?_
  exact ⟨rfl, Yf bA (by omega) _ _ _⟩
 have bE : decide (y < 0) ≠ decide (x < 0) := fun h => hs h.symm
 have bB := Kj y x bE (by omega)
 rw [Int.add_comm] at bB
 rw [<- bB]
 have aV := Jw (show y.natAbs - x.natAbs <= y.natAbs by omega)
 have l5 := fun w => Qa (decide (y < 0)) (y.natAbs - x.natAbs) w (by omega)
 rw [Qo] at l5
 rw [Qo]
 have j9 := fun w => Jd1 x.natAbs y.natAbs w hx hy
 have o8 := fun w => Jd1 y.natAbs x.natAbs w hy hx
 unfold Jkd at j9 o8
 rw [if_pos (by omega), Jav] at j9
 rw [if_neg (by omega)] at o8
 unfold Jh at l5 j9 o8
 unfold Js
 obtain ⟨b0, b1, b2, hB, hZ⟩ := bx3 w 63 #[.bool (decide (x < 0)), .int .u64 (lo x.natAbs : Int), .string (mo x.natAbs)] 63 #[.bool (decide (y < 0)), .int .u64 (lo y.natAbs : Int), .string (mo y.natAbs)] 63 #[.bool false, .int .u64 0, .string ⟨#[]⟩]
 have HFR := lh l5
 have HMU := lh j9
 have HMU2 := lh o8
 clear l5 j9 p0 aV bB o8
 generalize y.natAbs - x.natAbs = N at *
 clear hs bE
 obtain ⟨nx, l7⟩ : ∃ nx, decide (x < 0) = nx := ⟨_, rfl⟩
 obtain ⟨ny, p7⟩ : ∃ ny, decide (y < 0) = ny := ⟨_, rfl⟩
 rw [p7] at HFR
 rw [l7, p7] at b0 b1 b2 hB hZ bD
 rw [l7, p7]
 clear l7 p7
 obtain ⟨q, hq⟩ : ∃ q, (ny && decide (0 < N)) = q := ⟨_, rfl⟩
 rw [hq] at HFR ⊢
 clear hq
 go_enter Tryz.func99, Tryz.ntmps99
 go_wp2_with fail
 generalize ((w.alloc (.cells #[.bool nx, .int .u64 (lo x.natAbs : Int), .string (mo x.natAbs)] 63)).alloc (.cells #[.bool ny, .int .u64 (lo y.natAbs : Int), .string (mo y.natAbs)] 63)).alloc (.cells #[.bool false, .int .u64 0, .string ⟨#[]⟩] 63) = W at *
 refine (HMU.out W).mono ?_
 rintro e w1 ⟨rfl, o9⟩
 have aW := Ja hB o9
 (try clear j6 j7 j8); obtain ⟨b0, j6, j7, j8⟩ := b0.zc3 o9; (try clear e8 e9 j0); obtain ⟨b1, e8, e9, j0⟩ := b1.zc3 o9
 have b2 := b2.below o9 b2.lt
 have b0 := b0.alloc (.cells #[.int .u64 0, .string ⟨#[]⟩] 61)
 have b1 := b1.alloc (.cells #[.int .u64 0, .string ⟨#[]⟩] 61)
 have b2 := b2.alloc (.cells #[.int .u64 0, .string ⟨#[]⟩] 61)
 have aX := Ja aW (Jb w1 (.cells #[.int .u64 0, .string ⟨#[]⟩] 61))
 clear j6 j7 j8 e8 e9 j0
 obtain ⟨j6, j7, j8⟩ := b0.c3; obtain ⟨e8, e9, j0⟩ := b1.c3
 go_wp2_with fail
 refine (HMU2.out _).mono ?_
 rintro e w3 ⟨rfl, aB⟩
 have bA := Ja aX aB
 (try clear e8 e9 j0); obtain ⟨b1, e8, e9, j0⟩ := b1.zc3 aB
 have b2 := b2.below aB b2.lt
 have bq := Blk.new w3 61 #[.int .u64 (lo N : Int), .string (mo N)]
 have b1 := b1.alloc (.cells #[.int .u64 (lo N : Int), .string (mo N)] 61)
 have b2 := b2.alloc (.cells #[.int .u64 (lo N : Int), .string (mo N)] 61)
 have bG := Ja bA (Jb w3 (.cells #[.int .u64 (lo N : Int), .string (mo N)] 61))
 clear e8 e9 j0 j6 j7 j8
 obtain ⟨e8, e9, j0⟩ := b1.c3; obtain ⟨aY, aZ⟩ := bq.c2
 go_wp2_with fail
 refine (HFR.out _).mono ?_
 rintro e w5 ⟨rfl, bF⟩
 have bH := Ja bG bF
 (try clear x7 x8 x9 y8 y9 aA o0 o6 o7); obtain ⟨b2, x7, x8, x9, y8, y9, aA, o0, o6, o7⟩ := b2.zf3 bF
 go_wp2
 refine bodyPost_ret (v := .agg #[.bool q, .int .u64 (lo N : Int), .string (mo N)]) (by simp [results, Tryz.results99, go_sem, o0, o6, o7]) rfl ?_
 exact ⟨rfl, Yf bH (by omega) _ _ _⟩
