import Derived.Test.YtcoloflmigcphaaGreatDoorWholeM
import Derived.Test.YtcoloflmigcphaaGreatDoorNatDiv
namespace Go.Proofs.YtcoloflmigcphaaGreatDoor
set_option maxRecDepth 100000
set_option maxHeartbeats 400000
open Go.RowKit
set_option linter.all false
theorem Qk (q : Rat) (w : World) (hq : QS 1099511627776 q) : Calls Tryz.prog 78 #[qV q] w (Ret (.bool (decide (q.den = 1))) w) := by
 have hb := hq.qden
 have hz := Zi q
 have hp := Qv (qden q)
 have e : ((Je (qden q) : Int) == 0) = decide (q.den = 1) := by
  rw [Bool.eq_iff_iff]
  simp
  omega
 have e2 : (Je (qden q) == 0) = decide (q.den = 1) := by
  rw [Bool.eq_iff_iff]
  simp
  omega
 have HE := lh (And.intro e e2)
 obtain ⟨r, hr⟩ : ∃ r, decide (q.den = 1) = r := ⟨_, rfl⟩
 rw [hr] at HE e e2
 rw [hr]
 clear hr hz hp
 unfold qV
 obtain ⟨b0, hB, hZ⟩ := bx1 w 41 #[.bool (decide (q.num < 0)), .int .u64 (lo q.num.natAbs : Int), .string (mo q.num.natAbs), .int .u64 (lo ((qden q)) : Int), .string (mo ((qden q)))]
 go_enter Tryz.func78, Tryz.ntmps78
 go_wp2_with fail
 generalize (w.alloc (.cells #[.bool (decide (q.num < 0)), .int .u64 (lo q.num.natAbs : Int), .string (mo q.num.natAbs), .int .u64 (lo ((qden q)) : Int), .string (mo ((qden q)))] 41)) = W at *
 refine (Qn (qden q) W (by omega)).mono ?_
 rintro e1 w1 ⟨rfl, j0⟩
 go_wp2
 go_ret
 exact ⟨rfl, Ja hB j0⟩
theorem Yi (q : Rat) (w : World) (hq : QS 1099511627776 q) : Calls Tryz.prog 81 #[qV q] w (Ret (Jg q.den) w) := by
 have hw := fun w => Qk q w hq
 by_cases h : q.den = 1
 ·have e : decide (q.den = 1) = true := decide_eq_true h
  rw [e] at hw
  rw [h]
  have aW := fun w => Je9 1 w (by omega)
  have HW := lh hw
  have HOF := lh aW
  clear hw aW e h
  unfold Jg at HOF ⊢
  unfold qV at HW ⊢
  obtain ⟨b0, b1, hB, hZ⟩ := bx2 w 41 #[.bool (decide (q.num < 0)), .int .u64 (lo q.num.natAbs : Int), .string (mo q.num.natAbs), .int .u64 (lo ((qden q)) : Int), .string (mo ((qden q)))] 37 #[.int .u64 0, .string ⟨#[]⟩]
  go_enter Tryz.func81, Tryz.ntmps81
  go_wp2_with fail
  generalize ((w.alloc (.cells #[.bool (decide (q.num < 0)), .int .u64 (lo q.num.natAbs : Int), .string (mo q.num.natAbs), .int .u64 (lo ((qden q)) : Int), .string (mo ((qden q)))] 41)).alloc (.cells #[.int .u64 0, .string ⟨#[]⟩] 37)) = W at *
  refine (HW.out W).mono ?_
  rintro e1 w1 ⟨rfl, j0⟩
  have s9 := Ja hB j0
  have b1 := b1.below j0 b1.lt
  go_wp2_with fail
  refine (HOF.out w1).mono ?_
  rintro e1 w2 ⟨rfl, aX⟩
  have bH := Ja s9 aX
  (try clear j6 j7 aI aJ aA aB); obtain ⟨b1, j6, j7, aI, aJ, aA, aB⟩ := b1.zf2 aX
  go_wp2
  refine bodyPost_ret (v := .agg #[.int .u64 (lo 1 : Int), .string (mo 1)]) (by simp [results, Tryz.results81, go_sem, aA, aB]) rfl ?_
  exact ⟨rfl, Xo bH (by omega) _ _⟩
 have e : decide (q.den = 1) = false := decide_eq_false h
 have e2 : qden q = q.den := by unfold qden; rw [if_neg h]
 rw [e] at hw
 have HW := lh hw
 clear hw e h
 unfold Jg
 unfold qV at HW ⊢
 obtain ⟨b0, b1, hB, hZ⟩ := bx2 w 41 #[.bool (decide (q.num < 0)), .int .u64 (lo q.num.natAbs : Int), .string (mo q.num.natAbs), .int .u64 (lo ((qden q)) : Int), .string (mo ((qden q)))] 37 #[.int .u64 0, .string ⟨#[]⟩]
 rw [e2] at HW b0 b1 hB hZ
 rw [e2]
 clear e2
 go_enter Tryz.func81, Tryz.ntmps81
 go_wp2_with fail
 generalize (w.alloc (.cells #[.bool (decide (q.num < 0)), .int .u64 (lo q.num.natAbs : Int), .string (mo q.num.natAbs), .int .u64 (lo q.den : Int), .string (mo q.den)] 41)).alloc (.cells #[.int .u64 0, .string ⟨#[]⟩] 37) = W at *
 refine (HW.out W).mono ?_
 rintro e1 w1 ⟨rfl, j0⟩
 have s9 := Ja hB j0
 (try clear j8 j9 cE aK aL); obtain ⟨b0, j8, j9, cE, aK, aL⟩ := b0.zc5 j0
 (try clear j6 j7 aI aJ aA aB); obtain ⟨b1, j6, j7, aI, aJ, aA, aB⟩ := b1.zf2 j0
 have n1 := neE w.heap.size
 go_wp2
 refine bodyPost_ret (v := .agg #[.int .u64 (lo q.den : Int), .string (mo q.den)]) (by simp [results, Tryz.results81, go_sem, aA, aB]) rfl ?_
 exact ⟨rfl, Xo s9 (by omega) _ _⟩
theorem Jlm (q : Rat) (w : World) : Calls Tryz.prog 108 #[qV q] w (Ret (Qj q.num) w) := by
 unfold qV Qj
 go_enter Tryz.func108, Tryz.ntmps108
 go_wp2
 go_returns
 exact ⟨rfl, by go_grown⟩
theorem Vn (q : Rat) (w : World) (hq : QS 1099511627776 q) : Calls Tryz.prog 26 #[qV q] w (Ret (.int .i64 q.num.sign) w) := by
 have hs := lh (fun w => Vy q.num w (by have := hq.1; omega))
 unfold qV
 unfold Qj at hs
 obtain ⟨b0, hB, hZ⟩ := bx1 w 41 #[.bool (decide (q.num < 0)), .int .u64 (lo q.num.natAbs : Int), .string (mo q.num.natAbs), .int .u64 (lo ((qden q)) : Int), .string (mo ((qden q)))]
 go_enter Tryz.func26, Tryz.ntmps26
 go_wp2_with fail
 generalize (w.alloc (.cells #[.bool (decide (q.num < 0)), .int .u64 (lo q.num.natAbs : Int), .string (mo q.num.natAbs), .int .u64 (lo ((qden q)) : Int), .string (mo ((qden q)))] 41)) = W at *
 refine (hs.out W).mono ?_
 rintro e1 w1 ⟨rfl, j0⟩
 go_wp2
 go_ret
 exact ⟨rfl, Ja hB j0⟩
theorem Jbi (q : Rat) (w : World) (hq : QS 1099511627776 q) : Calls Tryz.prog 84 #[Qj q.num, Jg q.den] w (Ret (qV q) w) := by
 have aF := lh (fun w => Qn q.den w (by have := hq.2; omega))
 have h1 := Jhe q.den
 have bZ := hq.2
 unfold qV
 unfold Qj
 unfold Jg at aF ⊢
 obtain ⟨b0, b1, b2, hB, hZ⟩ := bx3 w 39 #[.bool (decide (q.num < 0)), .int .u64 (lo q.num.natAbs : Int), .string (mo q.num.natAbs)] 37 #[.int .u64 (lo q.den : Int), .string (mo q.den)] 41 #[.bool false, .int .u64 0, .string ⟨#[]⟩, .int .u64 0, .string ⟨#[]⟩]
 by_cases h : q.den = 1
 ·have e : qden q = 0 := (Zi q).2 h
  rw [e, Jy 0 (by omega), Jp 0 (by omega)]
  have e1 : ((Je q.den : Int) == 1) = true := by simp; omega
  have e2 : (Je q.den == 1) = true := by simp; omega
  clear e h h1
  go_enter Tryz.func84, Tryz.ntmps84
  go_wp2_with fail
  generalize (((w.alloc (.cells #[.bool (decide (q.num < 0)), .int .u64 (lo q.num.natAbs : Int), .string (mo q.num.natAbs)] 39)).alloc (.cells #[.int .u64 (lo q.den : Int), .string (mo q.den)] 37)).alloc (.cells #[.bool false, .int .u64 0, .string ⟨#[]⟩, .int .u64 0, .string ⟨#[]⟩] 41)) = W at *
  refine (aF.out W).mono ?_
  rintro e1 w1 ⟨rfl, j0⟩
  have s9 := Ja hB j0
  (try clear j8 j9 cE); obtain ⟨b0, j8, j9, cE⟩ := b0.zc3 j0; (try clear j6 j7); obtain ⟨b1, j6, j7⟩ := b1.zc2 j0
  (try clear cF cG aM aN aO cH cI aP aQ aR cD p9 aC aD aE); obtain ⟨b2, cF, cG, aM, aN, aO, cH, cI, aP, aQ, aR, cD, p9, aC, aD, aE⟩ := b2.zf5 j0
  go_wp2
  refine bodyPost_ret (v := .agg #[.bool (decide (q.num < 0)), .int .u64 (lo q.num.natAbs : Int), .string (mo q.num.natAbs), .int .u64 ((0 : Nat) : Int), .string ⟨#[]⟩]) (by simp [results, Tryz.results84, go_sem, cD, p9, aC, aD, aE]) rfl ?_
  exact ⟨rfl, Uy s9 (by omega) _ _ _ _ _⟩
 have e : qden q = q.den := by unfold qden; rw [if_neg h]
 rw [e]
 have e1 : ((Je q.den : Int) == 1) = false := by simp; omega
 have e2 : (Je q.den == 1) = false := by simp; omega
 clear e h h1
 go_enter Tryz.func84, Tryz.ntmps84
 go_wp2_with fail
 generalize (((w.alloc (.cells #[.bool (decide (q.num < 0)), .int .u64 (lo q.num.natAbs : Int), .string (mo q.num.natAbs)] 39)).alloc (.cells #[.int .u64 (lo q.den : Int), .string (mo q.den)] 37)).alloc (.cells #[.bool false, .int .u64 0, .string ⟨#[]⟩, .int .u64 0, .string ⟨#[]⟩] 41)) = W at *
 refine (aF.out W).mono ?_
 rintro e1 w1 ⟨rfl, j0⟩
 have s9 := Ja hB j0
 (try clear j8 j9 cE); obtain ⟨b0, j8, j9, cE⟩ := b0.zc3 j0; (try clear j6 j7); obtain ⟨b1, j6, j7⟩ := b1.zc2 j0
 (try clear cF cG aM aN aO cH cI aP aQ aR cD p9 aC aD aE); obtain ⟨b2, cF, cG, aM, aN, aO, cH, cI, aP, aQ, aR, cD, p9, aC, aD, aE⟩ := b2.zf5 j0
 go_wp2
 refine bodyPost_ret (v := .agg #[.bool (decide (q.num < 0)), .int .u64 (lo q.num.natAbs : Int), .string (mo q.num.natAbs), .int .u64 (lo q.den : Int), .string (mo q.den)]) (by simp [results, Tryz.results84, go_sem, cD, p9, aC, aD, aE]) rfl ?_
 exact ⟨rfl, Uy s9 (by omega) _ _ _ _ _⟩
theorem Yo (a b : Nat) (w : World) (ha : Je a <= 1099511627776) (hb : Je b <= 1099511627776) (bI : b ≠ 0) : Calls Tryz.prog 82 #[Jg a, Jg b] w (Ret (Jg (a / b)) w) := by
 have aF := lh (fun w => Qn b w (by omega))
 have aS := lh (fun w => Jca a b w bI ha hb)
 have h1 := Jhe b
 by_cases h : b = 1
 ·rw [h, Nat.div_one]
  rw [h] at aF aS h1
  have e1 : ((Je 1 : Int) == 1) = true := rfl
  have e2 : (Je 1 == 1) = true := rfl
  clear h1
  generalize 1 = b at *
  unfold Jg at aF aS ⊢
  obtain ⟨b0, b1, b2, hB, hZ⟩ := bx3 w 37 #[.int .u64 (lo a : Int), .string (mo a)] 37 #[.int .u64 (lo b : Int), .string (mo b)] 37 #[.int .u64 0, .string ⟨#[]⟩]
  go_enter Tryz.func82, Tryz.ntmps82
  go_wp2_with fail
  generalize (((w.alloc (.cells #[.int .u64 (lo a : Int), .string (mo a)] 37)).alloc (.cells #[.int .u64 (lo b : Int), .string (mo b)] 37)).alloc (.cells #[.int .u64 0, .string ⟨#[]⟩] 37)) = W at *
  refine (aF.out W).mono ?_
  rintro e1 w1 ⟨rfl, j0⟩
  have s9 := Ja hB j0
  (try clear j8 j9); obtain ⟨b0, j8, j9⟩ := b0.zc2 j0; (try clear j6 j7); obtain ⟨b1, j6, j7⟩ := b1.zc2 j0
  (try clear cF cG cH cI cD p9); obtain ⟨b2, cF, cG, cH, cI, cD, p9⟩ := b2.zf2 j0
  go_wp2
  refine bodyPost_ret (v := .agg #[.int .u64 (lo a : Int), .string (mo a)]) (by simp [results, Tryz.results82, go_sem, cD, p9]) rfl ?_
  exact ⟨rfl, Xo s9 (by omega) _ _⟩
 have e1 : ((Je b : Int) == 1) = false := by simp; omega
 have e2 : (Je b == 1) = false := by simp; omega
 clear h1 h
 unfold Jg at aF aS ⊢
 generalize a / b = Q at *
 generalize a % b = R at *
 obtain ⟨b0, b1, b2, hB, hZ⟩ := bx3 w 37 #[.int .u64 (lo a : Int), .string (mo a)] 37 #[.int .u64 (lo b : Int), .string (mo b)] 37 #[.int .u64 0, .string ⟨#[]⟩]
 go_enter Tryz.func82, Tryz.ntmps82
 go_wp2_with fail
 generalize (((w.alloc (.cells #[.int .u64 (lo a : Int), .string (mo a)] 37)).alloc (.cells #[.int .u64 (lo b : Int), .string (mo b)] 37)).alloc (.cells #[.int .u64 0, .string ⟨#[]⟩] 37)) = W at *
 refine (aF.out W).mono ?_
 rintro e1 w1 ⟨rfl, j0⟩
 have s9 := Ja hB j0
 (try clear j8 j9); obtain ⟨b0, j8, j9⟩ := b0.zc2 j0; (try clear j6 j7); obtain ⟨b1, j6, j7⟩ := b1.zc2 j0
 have b2 := b2.below j0 b2.lt
 go_wp2_with fail
 refine (aS.out w1).mono ?_
 rintro e1 w2 ⟨rfl, aX⟩
 have bH := Ja (Ja s9 aX) (Jo w2 (.cells #[.int .u64 (lo Q : Int), .string (mo Q)] 37) (.cells #[.int .u64 (lo R : Int), .string (mo R)] 37))
 have bq := (Blk.new w2 37 #[.int .u64 (lo Q : Int), .string (mo Q)]).alloc (.cells #[.int .u64 (lo R : Int), .string (mo R)] 37)
 have b2 := ((b2.below aX b2.lt).alloc (.cells #[.int .u64 (lo Q : Int), .string (mo Q)] 37)).alloc (.cells #[.int .u64 (lo R : Int), .string (mo R)] 37)
 obtain ⟨bX, bY⟩ := bq.c2
 obtain ⟨cF, cG, cH, cI, cD, p9⟩ := b2.f2
 go_wp2
 refine bodyPost_ret (v := .agg #[.int .u64 (lo Q : Int), .string (mo Q)]) (by simp [results, Tryz.results82, go_sem, cD, p9]) rfl ?_
 exact ⟨rfl, Xo bH (by omega) _ _⟩
theorem Uj (n : Int) (d : Nat) (w : World) (hn : Je n.natAbs <= 1099511627776) (hd : Je d <= 1099511627776) : Calls Tryz.prog 83 #[Qj n, Jg d] w (Ret (Qj (n * d)) w) := by
 have y9 := fun w => Qw false d w (by omega)
 have bD := fun w => Ja2 n d w hn (by rw [Int.natAbs_natCast]; exact hd)
 have e : signed false d = (d : Int) := rfl
 rw [e] at y9
 clear e
 generalize n * (d : Int) = N at *
 unfold Jg at y9 ⊢
 unfold Qj at y9 bD ⊢
 generalize decide (n < 0) = ng at *
 generalize decide (N < 0) = nG at *
 generalize decide ((d : Int) < 0) = nd at *
 rw [Int.natAbs_natCast] at y9 bD
 have HFR := lh y9
 have HMU := lh bD
 clear y9 bD
 obtain ⟨b0, b1, b2, hB, hZ⟩ := bx3 w 39 #[.bool ng, .int .u64 (lo n.natAbs : Int), .string (mo n.natAbs)] 37 #[.int .u64 (lo d : Int), .string (mo d)] 39 #[.bool false, .int .u64 0, .string ⟨#[]⟩]
 go_enter Tryz.func83, Tryz.ntmps83
 go_wp2_with fail
 generalize (((w.alloc (.cells #[.bool ng, .int .u64 (lo n.natAbs : Int), .string (mo n.natAbs)] 39)).alloc (.cells #[.int .u64 (lo d : Int), .string (mo d)] 37)).alloc (.cells #[.bool false, .int .u64 0, .string ⟨#[]⟩] 39)) = W at *
 obtain ⟨j8, j9, cE⟩ := b0.c3; obtain ⟨j6, j7⟩ := b1.c2; have c0 := b0.drew; have c1 := b1.drew; have c2 := b2.drew; have ne0 : ¬ w.heap.size = w.heap.size + 1 + 1 := (by omega); have ne0x : ¬ w.heap.size + 1 + 1 = w.heap.size := (by omega); have ne1 : ¬ w.heap.size + 1 = w.heap.size + 1 + 1 := (by omega); have ne1x : ¬ w.heap.size + 1 + 1 = w.heap.size + 1 := (by omega); go_region_held3 (fun w' => w'.cell? ⟨w.heap.size, 0, none⟩ = some (.bool ng) /\ w'.cell? ⟨w.heap.size, 1, none⟩ = some (.int .u64 (lo n.natAbs : Int)) /\ w'.cell? ⟨w.heap.size, 2, none⟩ = some (.string (mo n.natAbs)) /\ w'.cell? ⟨w.heap.size + 1, 0, none⟩ = some (.int .u64 (lo d : Int)) /\ w'.cell? ⟨w.heap.size + 1, 1, none⟩ = some (.string (mo d))) (go_keep) (first | (go_at_call 53; refine (HFR.out _).mono ?_; rintro e w1 ⟨rfl, aG⟩; (try clear bR cA cB); obtain ⟨c0, bR, cA, cB⟩ := c0.zc3 aG; (try clear o0 o9); obtain ⟨c1, o0, o9⟩ := c1.zc2 aG; have c2 := c2.below aG c2.lt) | (go_at_call 87; refine (HMU.out _).mono ?_; rintro e w2 ⟨rfl, aH⟩; (try clear bR cA cB); obtain ⟨c0, bR, cA, cB⟩ := c0.zc3 aH; (try clear o0 o9); obtain ⟨c1, o0, o9⟩ := c1.zc2 aH; obtain ⟨c2, bJ, bK, bL, bM, bN, bO, aT, aU, aV⟩ := c2.zf3 aH))
 all_goals
  go_wp2
  refine bodyPost_ret (v := .agg #[.bool nG, .int .u64 (lo N.natAbs : Int), .string (mo N.natAbs)]) (by simp [results, Tryz.results83, go_sem, aT, aU, aV]) rfl ?_
  exact ⟨rfl, Kw (Ja (Ja hB (Jaw aG)) aH) (by omega) _ _ _⟩
theorem Jgj (n : Int) (b : Nat) (h : b ∣ n.natAbs) : signed (decide (n.sign < 0)) (n.natAbs / b) = n / (b : Int) := by
 unfold signed
 obtain ⟨k, hk⟩ := h
 rcases Nat.eq_zero_or_pos b with h0 | h0
 ·subst h0
  simp
 rw [hk, Nat.mul_div_cancel_left _ h0]
 by_cases hn : n < 0
 ·rw [Int.sign_eq_neg_one_of_neg hn, if_pos (by decide)]
  have e : n = (b : Int) * (-(k : Int)) := by
   rw [Int.mul_neg, <- Int.natCast_mul, <- hk]
   omega
  rw [e, Int.mul_ediv_cancel_left _ (by omega)]
 have hs : ¬ n.sign < 0 := by
  rcases Int.lt_trichotomy n 0 with h | h | h
  ·omega
  ·rw [h]; decide
  rw [Int.sign_eq_one_of_pos h]; decide
 rw [if_neg (by simpa using hs)]
 have e : n = (b : Int) * (k : Int) := by
  rw [<- Int.natCast_mul, <- hk]
  omega
 rw [e, Int.mul_ediv_cancel_left _ (by omega)]
theorem Jbh (n : Int) (b : Nat) (w : World) (hn : Je n.natAbs <= 1099511627776) (hb : Je b <= 1099511627776) (bI : b ≠ 0) (aS : b ∣ n.natAbs) : Calls Tryz.prog 85 #[Qj n, Jg b] w (Ret (Qj (n / (b : Int))) w) := by
 have bP := fun w => Vy n w (by omega)
 have bE := fun w => Ja3 n w
 have bQ := fun w => Yo n.natAbs b w hn hb bI
 have y9 := fun w => Qw (decide (n.sign < 0)) (n.natAbs / b) w (by have := Yj n.natAbs b; omega)
 rw [Jgj n b aS] at y9
 generalize n.natAbs / b = q at *
 generalize n / (b : Int) = N at *
 generalize n.sign = sg at *
 clear aS
 unfold Jg at bE bQ y9 ⊢
 unfold Qj at bP bE y9 ⊢
 generalize decide (n < 0) = ng at *
 generalize decide (N < 0) = nG at *
 have HSG := lh bP
 have HAB := lh bE
 have HOV := lh bQ
 have HFR := lh y9
 clear bP bE bQ y9
 obtain ⟨b0, b1, b2, hB, hZ⟩ := bx3 w 39 #[.bool ng, .int .u64 (lo n.natAbs : Int), .string (mo n.natAbs)] 37 #[.int .u64 (lo b : Int), .string (mo b)] 39 #[.bool false, .int .u64 0, .string ⟨#[]⟩]
 go_enter Tryz.func85, Tryz.ntmps85
 go_wp2_with fail
 generalize (((w.alloc (.cells #[.bool ng, .int .u64 (lo n.natAbs : Int), .string (mo n.natAbs)] 39)).alloc (.cells #[.int .u64 (lo b : Int), .string (mo b)] 37)).alloc (.cells #[.bool false, .int .u64 0, .string ⟨#[]⟩] 39)) = W at *
 obtain ⟨j8, j9, cE⟩ := b0.c3; obtain ⟨j6, j7⟩ := b1.c2; have c0 := b0.drew; have c1 := b1.drew; have c2 := b2.drew; have ne0 : ¬ w.heap.size = w.heap.size + 1 + 1 := (by omega); have ne0x : ¬ w.heap.size + 1 + 1 = w.heap.size := (by omega); have ne1 : ¬ w.heap.size + 1 = w.heap.size + 1 + 1 := (by omega); have ne1x : ¬ w.heap.size + 1 + 1 = w.heap.size + 1 := (by omega); go_region_held3 (fun w' => w'.cell? ⟨w.heap.size, 0, none⟩ = some (.bool ng) /\ w'.cell? ⟨w.heap.size, 1, none⟩ = some (.int .u64 (lo n.natAbs : Int)) /\ w'.cell? ⟨w.heap.size, 2, none⟩ = some (.string (mo n.natAbs)) /\ w'.cell? ⟨w.heap.size + 1, 0, none⟩ = some (.int .u64 (lo b : Int)) /\ w'.cell? ⟨w.heap.size + 1, 1, none⟩ = some (.string (mo b))) (go_keep) (first | (go_at_call 65; refine (HSG.out _).mono ?_; rintro e w1 ⟨rfl, aG⟩; (try clear bR cA cB); obtain ⟨c0, bR, cA, cB⟩ := c0.zc3 aG; (try clear o0 o9); obtain ⟨c1, o0, o9⟩ := c1.zc2 aG; have c2 := c2.below aG c2.lt) | (go_at_call 101; refine (HAB.out _).mono ?_; rintro e w2 ⟨rfl, aH⟩; (try clear bR cA cB); obtain ⟨c0, bR, cA, cB⟩ := c0.zc3 aH; (try clear o0 o9); obtain ⟨c1, o0, o9⟩ := c1.zc2 aH; have c2 := c2.below aH c2.lt) | (go_at_call 82; refine (HOV.out _).mono ?_; rintro e w3 ⟨rfl, bF⟩; (try clear bR cA cB); obtain ⟨c0, bR, cA, cB⟩ := c0.zc3 bF; (try clear o0 o9); obtain ⟨c1, o0, o9⟩ := c1.zc2 bF; have c2 := c2.below bF c2.lt) | (go_at_call 53; refine (HFR.out _).mono ?_; rintro e w4 ⟨rfl, bG⟩; (try clear bR cA cB); obtain ⟨c0, bR, cA, cB⟩ := c0.zc3 bG; (try clear o0 o9); obtain ⟨c1, o0, o9⟩ := c1.zc2 bG; obtain ⟨c2, bJ, bK, bL, bM, bN, bO, aT, aU, aV⟩ := c2.zf3 bG))
 all_goals
  go_wp2
  refine bodyPost_ret (v := .agg #[.bool nG, .int .u64 (lo N.natAbs : Int), .string (mo N.natAbs)]) (by simp [results, Tryz.results85, go_sem, aT, aU, aV]) rfl ?_
  exact ⟨rfl, Kw (Ja (Ja (Ja (Ja hB (Jaw aG)) aH) bF) bG) (by omega) _ _ _⟩
theorem Vo (z : Int) (w : World) (h0 : -9223372036854775808 <= z) (h1 : z <= 9223372036854775807) : Calls Tryz.prog 40 #[.int .i64 z] w (Ret (qV (z : Rat)) w) := by
 have aW := fun w => Jkn z w h0 h1
 have e : qV (z : Rat) = .agg #[.bool (decide (z < 0)), .int .u64 (lo z.natAbs : Int), .string (mo z.natAbs), .int .u64 0, .string ⟨#[]⟩] := rfl
 rw [e]
 unfold Qj at aW
 have HOF := lh aW
 clear aW e
 generalize decide (z < 0) = nz at *
 obtain ⟨b0, hB, hZ⟩ := bx1 w 41 #[.bool false, .int .u64 0, .string ⟨#[]⟩, .int .u64 0, .string ⟨#[]⟩]
 go_enter Tryz.func40, Tryz.ntmps40
 go_wp2_with fail
 generalize (w.alloc (.cells #[.bool false, .int .u64 0, .string ⟨#[]⟩, .int .u64 0, .string ⟨#[]⟩] 41)) = W at *
 refine (HOF.out W).mono ?_
 rintro e1 w1 ⟨rfl, j0⟩
 have s9 := Ja hB j0
 (try clear j8 j9 cE aK aL bS bT bU bV bW aY aZ bA bB bC); obtain ⟨b0, j8, j9, cE, aK, aL, bS, bT, bU, bV, bW, aY, aZ, bA, bB, bC⟩ := b0.zf5 j0
 go_wp2
 refine bodyPost_ret (v := .agg #[.bool nz, .int .u64 (lo z.natAbs : Int), .string (mo z.natAbs), .int .u64 0, .string ⟨#[]⟩]) (by simp [results, Tryz.results40, go_sem, aY, aZ, bA, bB, bC]) rfl ?_
 exact ⟨rfl, Uy s9 (by omega) _ _ _ _ _⟩
