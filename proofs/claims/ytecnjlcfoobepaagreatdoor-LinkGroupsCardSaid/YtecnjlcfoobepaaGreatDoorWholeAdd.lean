import Derived.Test.YtecnjlcfoobepaaGreatDoorNatAdd
import Derived.Test.YtecnjlcfoobepaaGreatDoorNatSub
namespace Go.Proofs.YtecnjlcfoobepaaGreatDoor
set_option maxRecDepth 100000
set_option maxHeartbeats 1000000
open Go.RowKit
set_option linter.all false
theorem Jdo (x y : Int) (h : decide (x < 0) = decide (y < 0)) : signed (decide (x < 0)) (x.natAbs + y.natAbs) = x + y := by
 unfold signed
 by_cases hx : x < 0
 ·rw [decide_eq_true hx, if_pos rfl]
  rw [decide_eq_true hx] at h
  have hy : y < 0 := of_decide_eq_true h.symm
  omega
 rw [decide_eq_false hx, if_neg (by decide)]
 rw [decide_eq_false hx] at h
 have hy : ¬ y < 0 := of_decide_eq_false h.symm
 omega
theorem Uz (x y : Int) (h : decide (x < 0) ≠ decide (y < 0)) (bT : y.natAbs <= x.natAbs) : signed (decide (x < 0)) (x.natAbs - y.natAbs) = x + y := by
 unfold signed
 by_cases hx : x < 0
 ·rw [decide_eq_true hx, if_pos rfl]
  rw [decide_eq_true hx] at h
  have hy : ¬ y < 0 := fun hy => h (decide_eq_true hy).symm
  omega
 rw [decide_eq_false hx, if_neg (by decide)]
 rw [decide_eq_false hx] at h
 have hy : y < 0 := by
  by_cases h1 : y < 0
  ·exact h1
  exact absurd (decide_eq_false h1).symm h
 omega
theorem Jf3 (x y : Int) (w : World) (hx : Je x.natAbs <= 1099511627776) (hy : Je y.natAbs <= 1099511627776) : Calls Tryz.prog 156 #[Qa x, Qa y] w (Ret (Qa (x + y)) w) := by
 have aB := Jfe x.natAbs y.natAbs
 by_cases hs : decide (x < 0) = decide (y < 0)
 ·rw [<- Jdo x y hs]
  have t7 := fun w => Qh (decide (x < 0)) (x.natAbs + y.natAbs) w (by omega)
  rw [Xc] at t7
  rw [Xc]
  have s9 := fun w => Jq7 x.natAbs y.natAbs w hx hy
  unfold Jj at t7 s9
  unfold Qa
  obtain ⟨b0, b1, b2, hB, hZ⟩ := bx3 w 54 #[.bool (decide (x < 0)), .int .u64 (lo x.natAbs : Int), .string (mo x.natAbs)] 54 #[.bool (decide (y < 0)), .int .u64 (lo y.natAbs : Int), .string (mo y.natAbs)] 54 #[.bool false, .int .u64 0, .string ⟨#[]⟩]
  have HFR := lh t7
  have HMU := lh s9
  clear t7 s9 aB
  generalize x.natAbs + y.natAbs = N at *
  rw [<- hs] at b0 b1 b2 hB hZ
  rw [<- hs]
  clear hs
  obtain ⟨nx, t8⟩ : ∃ nx, decide (x < 0) = nx := ⟨_, rfl⟩
  rw [t8] at HFR
  rw [t8] at b0 b1 b2 hB hZ
  rw [t8]
  clear t8
  have bZ : (nx == nx) = true := by simp
  obtain ⟨q, hq⟩ : ∃ q, (nx && decide (0 < N)) = q := ⟨_, rfl⟩
  rw [hq] at HFR ⊢
  clear hq
  go_enter Tryz.func156, Tryz.ntmps156
  go_wp2_with fail
  generalize ((w.alloc (.cells #[.bool nx, .int .u64 (lo x.natAbs : Int), .string (mo x.natAbs)] 54)).alloc (.cells #[.bool nx, .int .u64 (lo y.natAbs : Int), .string (mo y.natAbs)] 54)).alloc (.cells #[.bool false, .int .u64 0, .string ⟨#[]⟩] 54) = W at *
  obtain ⟨j9, o0, o5⟩ := b0.c3; obtain ⟨j6, j7, j8⟩ := b1.c3
  have c0 := b0.drew
  have c1 := b1.drew
  have c2 := b2.drew
  have n1 := neA w.heap.size
  have n2 := neB w.heap.size
  go_region_held3 (fun w' => w'.cell? ⟨w.heap.size, 0, none⟩ = some (.bool nx) /\ w'.cell? ⟨w.heap.size, 1, none⟩ = some (.int .u64 (lo x.natAbs : Int)) /\ w'.cell? ⟨w.heap.size, 2, none⟩ = some (.string (mo x.natAbs)) /\ w'.cell? ⟨w.heap.size + 1, 1, none⟩ = some (.int .u64 (lo y.natAbs : Int)) /\ w'.cell? ⟨w.heap.size + 1, 2, none⟩ = some (.string (mo y.natAbs))) (go_keep) (first | (go_at_call 172; refine (HMU.out _).mono ?_; rintro e wa ⟨rfl, aB⟩; (try clear aD aE aF); obtain ⟨c0, aD, aE, aF⟩ := c0.zc3 aB; (try clear aG aH aI); obtain ⟨c1, aG, aH, aI⟩ := c1.zc3 aB; (try clear aJ aK aL); obtain ⟨c2, aJ, aK, aL⟩ := c2.zc3 aB) | (go_at_call 74; refine (HFR.out _).mono ?_; rintro e wf ⟨rfl, aW⟩; (try clear aD aE aF aX aY aZ bA bB bC); obtain ⟨c0, aD, aE, aF, aX, aY, aZ, bA, bB, bC⟩ := c0.zf3 aW; (try clear aG aH aI bD bE bF bG bH bI); obtain ⟨c1, aG, aH, aI, bD, bE, bF, bG, bH, bI⟩ := c1.zf3 aW; (try clear aJ aK aL bJ bK bL aT aU aV); obtain ⟨c2, aJ, aK, aL, bJ, bK, bL, aT, aU, aV⟩ := c2.zf3 aW))
  all_goals
   go_wp2
   refine bodyPost_ret (v := .agg #[.bool q, .int .u64 (lo N : Int), .string (mo N)]) (by simp [results, Tryz.results156, go_sem, aT, aU, aV]) rfl ?_
   exact ⟨rfl, Kh (Ja (Ja hB (Jbq aB)) aW) (by omega) _ _ _⟩
 have bU : (decide (x < 0) == decide (y < 0)) = false := by simpa using hs
 by_cases bT : y.natAbs <= x.natAbs
 ·rw [<- Uz x y hs bT]
  have bM := Qb (show x.natAbs - y.natAbs <= x.natAbs by omega)
  have t7 := fun w => Qh (decide (x < 0)) (x.natAbs - y.natAbs) w (by omega)
  rw [Xc] at t7
  rw [Xc]
  have s9 := fun w => Jhh x.natAbs y.natAbs w hx hy
  unfold Jqx at s9
  rw [if_neg (by omega)] at s9
  unfold Jj at t7 s9
  unfold Qa
  obtain ⟨b0, b1, b2, hB, hZ⟩ := bx3 w 54 #[.bool (decide (x < 0)), .int .u64 (lo x.natAbs : Int), .string (mo x.natAbs)] 54 #[.bool (decide (y < 0)), .int .u64 (lo y.natAbs : Int), .string (mo y.natAbs)] 54 #[.bool false, .int .u64 0, .string ⟨#[]⟩]
  have HFR := lh t7
  have HMU := lh s9
  clear t7 s9 aB bM
  generalize x.natAbs - y.natAbs = N at *
  clear hs
  obtain ⟨nx, t8⟩ : ∃ nx, decide (x < 0) = nx := ⟨_, rfl⟩
  obtain ⟨ny, aC⟩ : ∃ ny, decide (y < 0) = ny := ⟨_, rfl⟩
  rw [t8] at HFR
  rw [t8, aC] at b0 b1 b2 hB hZ bU
  rw [t8, aC]
  clear t8 aC
  obtain ⟨q, hq⟩ : ∃ q, (nx && decide (0 < N)) = q := ⟨_, rfl⟩
  rw [hq] at HFR ⊢
  clear hq
  go_enter Tryz.func156, Tryz.ntmps156
  go_wp2_with fail
  generalize ((w.alloc (.cells #[.bool nx, .int .u64 (lo x.natAbs : Int), .string (mo x.natAbs)] 54)).alloc (.cells #[.bool ny, .int .u64 (lo y.natAbs : Int), .string (mo y.natAbs)] 54)).alloc (.cells #[.bool false, .int .u64 0, .string ⟨#[]⟩] 54) = W at *
  refine (HMU.out W).mono ?_
  rintro e w1 ⟨rfl, aA⟩
  have bN := Ja hB aA
  (try clear j9 o0 o5); obtain ⟨b0, j9, o0, o5⟩ := b0.zc3 aA; (try clear j6 j7 j8); obtain ⟨b1, j6, j7, j8⟩ := b1.zc3 aA
  have b2 := b2.below aA b2.lt
  have bq := Blk.new w1 52 #[.int .u64 (lo N : Int), .string (mo N)]
  have b0 := b0.alloc (.cells #[.int .u64 (lo N : Int), .string (mo N)] 52)
  have b2 := b2.alloc (.cells #[.int .u64 (lo N : Int), .string (mo N)] 52)
  have bO := Ja bN (Jb w1 (.cells #[.int .u64 (lo N : Int), .string (mo N)] 52))
  obtain ⟨j9, o0, o5⟩ := b0.c3; obtain ⟨bP, bQ⟩ := bq.c2
  go_wp2_with fail
  refine (HFR.out _).mono ?_
  rintro e w3 ⟨rfl, aS⟩
  have bR := Ja bO aS
  (try clear aM aN aO aP aQ aR x8 x9 y8); obtain ⟨b2, aM, aN, aO, aP, aQ, aR, x8, x9, y8⟩ := b2.zf3 aS
  go_wp2
  refine bodyPost_ret (v := .agg #[.bool q, .int .u64 (lo N : Int), .string (mo N)]) (by simp [results, Tryz.results156, go_sem, x8, x9, y8]) rfl ?_
  exact ⟨rfl, Kh bR (by omega) _ _ _⟩
 have bV : decide (y < 0) ≠ decide (x < 0) := fun h => hs h.symm
 have bS := Uz y x bV (by omega)
 rw [Int.add_comm] at bS
 rw [<- bS]
 have bM := Qb (show y.natAbs - x.natAbs <= y.natAbs by omega)
 have t7 := fun w => Qh (decide (y < 0)) (y.natAbs - x.natAbs) w (by omega)
 rw [Xc] at t7
 rw [Xc]
 have s9 := fun w => Jhh x.natAbs y.natAbs w hx hy
 have y9 := fun w => Jhh y.natAbs x.natAbs w hy hx
 unfold Jqx at s9 y9
 rw [if_pos (by omega), Jc0] at s9
 rw [if_neg (by omega)] at y9
 unfold Jj at t7 s9 y9
 unfold Qa
 obtain ⟨b0, b1, b2, hB, hZ⟩ := bx3 w 54 #[.bool (decide (x < 0)), .int .u64 (lo x.natAbs : Int), .string (mo x.natAbs)] 54 #[.bool (decide (y < 0)), .int .u64 (lo y.natAbs : Int), .string (mo y.natAbs)] 54 #[.bool false, .int .u64 0, .string ⟨#[]⟩]
 have HFR := lh t7
 have HMU := lh s9
 have HMU2 := lh y9
 clear t7 s9 aB bM bS y9
 generalize y.natAbs - x.natAbs = N at *
 clear hs bV
 obtain ⟨nx, t8⟩ : ∃ nx, decide (x < 0) = nx := ⟨_, rfl⟩
 obtain ⟨ny, aC⟩ : ∃ ny, decide (y < 0) = ny := ⟨_, rfl⟩
 rw [aC] at HFR
 rw [t8, aC] at b0 b1 b2 hB hZ bU
 rw [t8, aC]
 clear t8 aC
 obtain ⟨q, hq⟩ : ∃ q, (ny && decide (0 < N)) = q := ⟨_, rfl⟩
 rw [hq] at HFR ⊢
 clear hq
 go_enter Tryz.func156, Tryz.ntmps156
 go_wp2_with fail
 generalize ((w.alloc (.cells #[.bool nx, .int .u64 (lo x.natAbs : Int), .string (mo x.natAbs)] 54)).alloc (.cells #[.bool ny, .int .u64 (lo y.natAbs : Int), .string (mo y.natAbs)] 54)).alloc (.cells #[.bool false, .int .u64 0, .string ⟨#[]⟩] 54) = W at *
 refine (HMU.out W).mono ?_
 rintro e w1 ⟨rfl, aA⟩
 have bN := Ja hB aA
 (try clear j9 o0 o5); obtain ⟨b0, j9, o0, o5⟩ := b0.zc3 aA; (try clear j6 j7 j8); obtain ⟨b1, j6, j7, j8⟩ := b1.zc3 aA
 have b2 := b2.below aA b2.lt
 have b0 := b0.alloc (.cells #[.int .u64 0, .string ⟨#[]⟩] 52)
 have b1 := b1.alloc (.cells #[.int .u64 0, .string ⟨#[]⟩] 52)
 have b2 := b2.alloc (.cells #[.int .u64 0, .string ⟨#[]⟩] 52)
 have bO := Ja bN (Jb w1 (.cells #[.int .u64 0, .string ⟨#[]⟩] 52))
 clear j9 o0 o5 j6 j7 j8
 obtain ⟨j9, o0, o5⟩ := b0.c3; obtain ⟨j6, j7, j8⟩ := b1.c3
 go_wp2_with fail
 refine (HMU2.out _).mono ?_
 rintro e w3 ⟨rfl, aS⟩
 have bR := Ja bO aS
 (try clear j6 j7 j8); obtain ⟨b1, j6, j7, j8⟩ := b1.zc3 aS
 have b2 := b2.below aS b2.lt
 have bq := Blk.new w3 52 #[.int .u64 (lo N : Int), .string (mo N)]
 have b1 := b1.alloc (.cells #[.int .u64 (lo N : Int), .string (mo N)] 52)
 have b2 := b2.alloc (.cells #[.int .u64 (lo N : Int), .string (mo N)] 52)
 have bX := Ja bR (Jb w3 (.cells #[.int .u64 (lo N : Int), .string (mo N)] 52))
 clear j6 j7 j8 j9 o0 o5
 obtain ⟨j6, j7, j8⟩ := b1.c3; obtain ⟨bP, bQ⟩ := bq.c2
 go_wp2_with fail
 refine (HFR.out _).mono ?_
 rintro e w5 ⟨rfl, bW⟩
 have bY := Ja bX bW
 (try clear aM aN aO aP aQ aR x8 x9 y8); obtain ⟨b2, aM, aN, aO, aP, aQ, aR, x8, x9, y8⟩ := b2.zf3 bW
 go_wp2
 refine bodyPost_ret (v := .agg #[.bool q, .int .u64 (lo N : Int), .string (mo N)]) (by simp [results, Tryz.results156, go_sem, x8, x9, y8]) rfl ?_
 exact ⟨rfl, Kh bY (by omega) _ _ _⟩
