import Derived.Test.YtcoloflmigcphaaGreatDoorNatAdd
import Derived.Test.YtcoloflmigcphaaGreatDoorNatSub
namespace Go.Proofs.YtcoloflmigcphaaGreatDoor
set_option maxRecDepth 100000
set_option maxHeartbeats 1000000
open Go.RowKit
set_option linter.all false
theorem Jb5 (x y : Int) (h : decide (x < 0) = decide (y < 0)) : signed (decide (x < 0)) (x.natAbs + y.natAbs) = x + y := by
 unfold signed
 by_cases hx : x < 0
 ·rw [decide_eq_true hx, if_pos rfl]
  rw [decide_eq_true hx] at h
  have hy : y < 0 := of_decide_eq_true h.symm
  omega
 rw [decide_eq_false hx, if_neg (by decide)]
 rw [decide_eq_false hx] at h
 have hy : ¬ y < 0 := of_decide_eq_false h.symm
 omega
theorem Kp (x y : Int) (h : decide (x < 0) ≠ decide (y < 0)) (bN : y.natAbs <= x.natAbs) : signed (decide (x < 0)) (x.natAbs - y.natAbs) = x + y := by
 unfold signed
 by_cases hx : x < 0
 ·rw [decide_eq_true hx, if_pos rfl]
  rw [decide_eq_true hx] at h
  have hy : ¬ y < 0 := fun hy => h (decide_eq_true hy).symm
  omega
 rw [decide_eq_false hx, if_neg (by decide)]
 rw [decide_eq_false hx] at h
 have hy : y < 0 := by
  by_cases h1 : y < 0
  ·exact h1
  exact absurd (decide_eq_false h1).symm h
 omega
theorem Jdx (x y : Int) (w : World) (hx : Je x.natAbs <= 1099511627776) (hy : Je y.natAbs <= 1099511627776) : Calls Tryz.prog 79 #[Qj x, Qj y] w (Ret (Qj (x + y)) w) := by
 have bZ := Jhf x.natAbs y.natAbs
 by_cases hs : decide (x < 0) = decide (y < 0)
 ·rw [<- Jb5 x y hs]
  have bW := fun w => Qw (decide (x < 0)) (x.natAbs + y.natAbs) w (by omega)
  rw [Xc] at bW
  rw [Xc]
  have bV := fun w => Jme x.natAbs y.natAbs w hx hy
  unfold Jg at bW bV
  unfold Qj
  obtain ⟨b0, b1, b2, hB, hZ⟩ := bx3 w 39 #[.bool (decide (x < 0)), .int .u64 (lo x.natAbs : Int), .string (mo x.natAbs)] 39 #[.bool (decide (y < 0)), .int .u64 (lo y.natAbs : Int), .string (mo y.natAbs)] 39 #[.bool false, .int .u64 0, .string ⟨#[]⟩]
  have HFR := lh bW
  have HMU := lh bV
  clear bW bV bZ
  generalize x.natAbs + y.natAbs = N at *
  rw [<- hs] at b0 b1 b2 hB hZ
  rw [<- hs]
  clear hs
  obtain ⟨nx, o0⟩ : ∃ nx, decide (x < 0) = nx := ⟨_, rfl⟩
  rw [o0] at HFR
  rw [o0] at b0 b1 b2 hB hZ
  rw [o0]
  clear o0
  have bU : (nx == nx) = true := by simp
  obtain ⟨q, hq⟩ : ∃ q, (nx && decide (0 < N)) = q := ⟨_, rfl⟩
  rw [hq] at HFR ⊢
  clear hq
  go_enter Tryz.func79, Tryz.ntmps79
  go_wp2_with fail
  generalize ((w.alloc (.cells #[.bool nx, .int .u64 (lo x.natAbs : Int), .string (mo x.natAbs)] 39)).alloc (.cells #[.bool nx, .int .u64 (lo y.natAbs : Int), .string (mo y.natAbs)] 39)).alloc (.cells #[.bool false, .int .u64 0, .string ⟨#[]⟩] 39) = W at *
  obtain ⟨j8, j9, bR⟩ := b0.c3; obtain ⟨j0, j6, j7⟩ := b1.c3
  have c0 := b0.drew
  have c1 := b1.drew
  have c2 := b2.drew
  have n1 := neA w.heap.size
  have n2 := neB w.heap.size
  go_region_held3 (fun w' => w'.cell? ⟨w.heap.size, 0, none⟩ = some (.bool nx) /\ w'.cell? ⟨w.heap.size, 1, none⟩ = some (.int .u64 (lo x.natAbs : Int)) /\ w'.cell? ⟨w.heap.size, 2, none⟩ = some (.string (mo x.natAbs)) /\ w'.cell? ⟨w.heap.size + 1, 1, none⟩ = some (.int .u64 (lo y.natAbs : Int)) /\ w'.cell? ⟨w.heap.size + 1, 2, none⟩ = some (.string (mo y.natAbs))) (go_keep) (first | (go_at_call 120; refine (HMU.out _).mono ?_; rintro e wa ⟨rfl, bZ⟩; (try clear cB cD y9); obtain ⟨c0, cB, cD, y9⟩ := c0.zc3 bZ; (try clear aA aB aC); obtain ⟨c1, aA, aB, aC⟩ := c1.zc3 bZ; (try clear aD aE aF); obtain ⟨c2, aD, aE, aF⟩ := c2.zc3 bZ) | (go_at_call 53; refine (HFR.out _).mono ?_; rintro e wf ⟨rfl, aQ⟩; (try clear cB cD y9 aR aS aT aU aV aW); obtain ⟨c0, cB, cD, y9, aR, aS, aT, aU, aV, aW⟩ := c0.zf3 aQ; (try clear aA aB aC aX aY aZ bA bB bC); obtain ⟨c1, aA, aB, aC, aX, aY, aZ, bA, bB, bC⟩ := c1.zf3 aQ; (try clear aD aE aF bD bE bF aN aO aP); obtain ⟨c2, aD, aE, aF, bD, bE, bF, aN, aO, aP⟩ := c2.zf3 aQ))
  all_goals
   go_wp2
   refine bodyPost_ret (v := .agg #[.bool q, .int .u64 (lo N : Int), .string (mo N)]) (by simp [results, Tryz.results79, go_sem, aN, aO, aP]) rfl ?_
   exact ⟨rfl, Kw (Ja (Ja hB (Jaw bZ)) aQ) (by omega) _ _ _⟩
 have bO : (decide (x < 0) == decide (y < 0)) = false := by simpa using hs
 by_cases bN : y.natAbs <= x.natAbs
 ·rw [<- Kp x y hs bN]
  have bG := Qc (show x.natAbs - y.natAbs <= x.natAbs by omega)
  have bW := fun w => Qw (decide (x < 0)) (x.natAbs - y.natAbs) w (by omega)
  rw [Xc] at bW
  rw [Xc]
  have bV := fun w => Je7 x.natAbs y.natAbs w hx hy
  unfold Jl7 at bV
  rw [if_neg (by omega)] at bV
  unfold Jg at bW bV
  unfold Qj
  obtain ⟨b0, b1, b2, hB, hZ⟩ := bx3 w 39 #[.bool (decide (x < 0)), .int .u64 (lo x.natAbs : Int), .string (mo x.natAbs)] 39 #[.bool (decide (y < 0)), .int .u64 (lo y.natAbs : Int), .string (mo y.natAbs)] 39 #[.bool false, .int .u64 0, .string ⟨#[]⟩]
  have HFR := lh bW
  have HMU := lh bV
  clear bW bV bZ bG
  generalize x.natAbs - y.natAbs = N at *
  clear hs
  obtain ⟨nx, o0⟩ : ∃ nx, decide (x < 0) = nx := ⟨_, rfl⟩
  obtain ⟨ny, cA⟩ : ∃ ny, decide (y < 0) = ny := ⟨_, rfl⟩
  rw [o0] at HFR
  rw [o0, cA] at b0 b1 b2 hB hZ bO
  rw [o0, cA]
  clear o0 cA
  obtain ⟨q, hq⟩ : ∃ q, (nx && decide (0 < N)) = q := ⟨_, rfl⟩
  rw [hq] at HFR ⊢
  clear hq
  go_enter Tryz.func79, Tryz.ntmps79
  go_wp2_with fail
  generalize ((w.alloc (.cells #[.bool nx, .int .u64 (lo x.natAbs : Int), .string (mo x.natAbs)] 39)).alloc (.cells #[.bool ny, .int .u64 (lo y.natAbs : Int), .string (mo y.natAbs)] 39)).alloc (.cells #[.bool false, .int .u64 0, .string ⟨#[]⟩] 39) = W at *
  refine (HMU.out W).mono ?_
  rintro e w1 ⟨rfl, s9⟩
  have bH := Ja hB s9
  (try clear j8 j9 bR); obtain ⟨b0, j8, j9, bR⟩ := b0.zc3 s9; (try clear j0 j6 j7); obtain ⟨b1, j0, j6, j7⟩ := b1.zc3 s9
  have b2 := b2.below s9 b2.lt
  have bq := Blk.new w1 37 #[.int .u64 (lo N : Int), .string (mo N)]
  have b0 := b0.alloc (.cells #[.int .u64 (lo N : Int), .string (mo N)] 37)
  have b2 := b2.alloc (.cells #[.int .u64 (lo N : Int), .string (mo N)] 37)
  have bI := Ja bH (Jb w1 (.cells #[.int .u64 (lo N : Int), .string (mo N)] 37))
  obtain ⟨j8, j9, bR⟩ := b0.c3; obtain ⟨bJ, bK⟩ := bq.c2
  go_wp2_with fail
  refine (HFR.out _).mono ?_
  rintro e w3 ⟨rfl, aM⟩
  have bL := Ja bI aM
  (try clear aG aH aI aJ aK aL o9 bX p9); obtain ⟨b2, aG, aH, aI, aJ, aK, aL, o9, bX, p9⟩ := b2.zf3 aM
  go_wp2
  refine bodyPost_ret (v := .agg #[.bool q, .int .u64 (lo N : Int), .string (mo N)]) (by simp [results, Tryz.results79, go_sem, o9, bX, p9]) rfl ?_
  exact ⟨rfl, Kw bL (by omega) _ _ _⟩
 have bP : decide (y < 0) ≠ decide (x < 0) := fun h => hs h.symm
 have bM := Kp y x bP (by omega)
 rw [Int.add_comm] at bM
 rw [<- bM]
 have bG := Qc (show y.natAbs - x.natAbs <= y.natAbs by omega)
 have bW := fun w => Qw (decide (y < 0)) (y.natAbs - x.natAbs) w (by omega)
 rw [Xc] at bW
 rw [Xc]
 have bV := fun w => Je7 x.natAbs y.natAbs w hx hy
 have bY := fun w => Je7 y.natAbs x.natAbs w hy hx
 unfold Jl7 at bV bY
 rw [if_pos (by omega), Jbb] at bV
 rw [if_neg (by omega)] at bY
 unfold Jg at bW bV bY
 unfold Qj
 obtain ⟨b0, b1, b2, hB, hZ⟩ := bx3 w 39 #[.bool (decide (x < 0)), .int .u64 (lo x.natAbs : Int), .string (mo x.natAbs)] 39 #[.bool (decide (y < 0)), .int .u64 (lo y.natAbs : Int), .string (mo y.natAbs)] 39 #[.bool false, .int .u64 0, .string ⟨#[]⟩]
 have HFR := lh bW
 have HMU := lh bV
 have HMU2 := lh bY
 clear bW bV bZ bG bM bY
 generalize y.natAbs - x.natAbs = N at *
 clear hs bP
 obtain ⟨nx, o0⟩ : ∃ nx, decide (x < 0) = nx := ⟨_, rfl⟩
 obtain ⟨ny, cA⟩ : ∃ ny, decide (y < 0) = ny := ⟨_, rfl⟩
 rw [cA] at HFR
 rw [o0, cA] at b0 b1 b2 hB hZ bO
 rw [o0, cA]
 clear o0 cA
 obtain ⟨q, hq⟩ : ∃ q, (ny && decide (0 < N)) = q := ⟨_, rfl⟩
 rw [hq] at HFR ⊢
 clear hq
 go_enter Tryz.func79, Tryz.ntmps79
 go_wp2_with fail
 generalize ((w.alloc (.cells #[.bool nx, .int .u64 (lo x.natAbs : Int), .string (mo x.natAbs)] 39)).alloc (.cells #[.bool ny, .int .u64 (lo y.natAbs : Int), .string (mo y.natAbs)] 39)).alloc (.cells #[.bool false, .int .u64 0, .string ⟨#[]⟩] 39) = W at *
 refine (HMU.out W).mono ?_
 rintro e w1 ⟨rfl, s9⟩
 have bH := Ja hB s9
 (try clear j8 j9 bR); obtain ⟨b0, j8, j9, bR⟩ := b0.zc3 s9; (try clear j0 j6 j7); obtain ⟨b1, j0, j6, j7⟩ := b1.zc3 s9
 have b2 := b2.below s9 b2.lt
 have b0 := b0.alloc (.cells #[.int .u64 0, .string ⟨#[]⟩] 37)
 have b1 := b1.alloc (.cells #[.int .u64 0, .string ⟨#[]⟩] 37)
 have b2 := b2.alloc (.cells #[.int .u64 0, .string ⟨#[]⟩] 37)
 have bI := Ja bH (Jb w1 (.cells #[.int .u64 0, .string ⟨#[]⟩] 37))
 clear j8 j9 bR j0 j6 j7
 obtain ⟨j8, j9, bR⟩ := b0.c3; obtain ⟨j0, j6, j7⟩ := b1.c3
 go_wp2_with fail
 refine (HMU2.out _).mono ?_
 rintro e w3 ⟨rfl, aM⟩
 have bL := Ja bI aM
 (try clear j0 j6 j7); obtain ⟨b1, j0, j6, j7⟩ := b1.zc3 aM
 have b2 := b2.below aM b2.lt
 have bq := Blk.new w3 37 #[.int .u64 (lo N : Int), .string (mo N)]
 have b1 := b1.alloc (.cells #[.int .u64 (lo N : Int), .string (mo N)] 37)
 have b2 := b2.alloc (.cells #[.int .u64 (lo N : Int), .string (mo N)] 37)
 have bS := Ja bL (Jb w3 (.cells #[.int .u64 (lo N : Int), .string (mo N)] 37))
 clear j0 j6 j7 j8 j9 bR
 obtain ⟨j0, j6, j7⟩ := b1.c3; obtain ⟨bJ, bK⟩ := bq.c2
 go_wp2_with fail
 refine (HFR.out _).mono ?_
 rintro e w5 ⟨rfl, bQ⟩
 have bT := Ja bS bQ
 (try clear aG aH aI aJ aK aL o9 bX p9); obtain ⟨b2, aG, aH, aI, aJ, aK, aL, o9, bX, p9⟩ := b2.zf3 bQ
 go_wp2
 refine bodyPost_ret (v := .agg #[.bool q, .int .u64 (lo N : Int), .string (mo N)]) (by simp [results, Tryz.results79, go_sem, o9, bX, p9]) rfl ?_
 exact ⟨rfl, Kw bT (by omega) _ _ _⟩
