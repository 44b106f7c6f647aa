import Derived.Test.YtecnjlcfoobepaaGreatDoorWholeM
import Derived.Test.YtecnjlcfoobepaaGreatDoorNatDiv
namespace Go.Proofs.YtecnjlcfoobepaaGreatDoor
set_option maxRecDepth 100000
set_option maxHeartbeats 400000
open Go.RowKit
set_option linter.all false
theorem Qu (q : Rat) (w : World) (hq : QS 1099511627776 q) : Calls Tryz.prog 64 #[qV q] w (Ret (.bool (decide (q.den = 1))) w) := by
 have hb := hq.qden
 have hz := Yb q
 have hp := Xe (qden q)
 have e : ((Je (qden q) : Int) == 0) = decide (q.den = 1) := by
  rw [Bool.eq_iff_iff]
  simp
  omega
 have e2 : (Je (qden q) == 0) = decide (q.den = 1) := by
  rw [Bool.eq_iff_iff]
  simp
  omega
 have HE := lh (And.intro e e2)
 obtain ⟨r, hr⟩ : ∃ r, decide (q.den = 1) = r := ⟨_, rfl⟩
 rw [hr] at HE e e2
 rw [hr]
 clear hr hz hp
 unfold qV
 obtain ⟨b0, hB, hZ⟩ := bx1 w 56 #[.bool (decide (q.num < 0)), .int .u64 (lo q.num.natAbs : Int), .string (mo q.num.natAbs), .int .u64 (lo ((qden q)) : Int), .string (mo ((qden q)))]
 go_enter Tryz.func64, Tryz.ntmps64
 go_wp2_with fail
 generalize (w.alloc (.cells #[.bool (decide (q.num < 0)), .int .u64 (lo q.num.natAbs : Int), .string (mo q.num.natAbs), .int .u64 (lo ((qden q)) : Int), .string (mo ((qden q)))] 56)) = W at *
 refine (Qx (qden q) W (by omega)).mono ?_
 rintro e1 w1 ⟨rfl, j6⟩
 go_wp2
 go_ret
 exact ⟨rfl, Ja hB j6⟩
theorem Kg (q : Rat) (w : World) (hq : QS 1099511627776 q) : Calls Tryz.prog 67 #[qV q] w (Ret (Jj q.den) w) := by
 have hw := fun w => Qu q w hq
 by_cases h : q.den = 1
 ·have e : decide (q.den = 1) = true := decide_eq_true h
  rw [e] at hw
  rw [h]
  have bC := fun w => Jhj 1 w (by omega)
  have HW := lh hw
  have HOF := lh bC
  clear hw bC e h
  unfold Jj at HOF ⊢
  unfold qV at HW ⊢
  obtain ⟨b0, b1, hB, hZ⟩ := bx2 w 56 #[.bool (decide (q.num < 0)), .int .u64 (lo q.num.natAbs : Int), .string (mo q.num.natAbs), .int .u64 (lo ((qden q)) : Int), .string (mo ((qden q)))] 52 #[.int .u64 0, .string ⟨#[]⟩]
  go_enter Tryz.func67, Tryz.ntmps67
  go_wp2_with fail
  generalize ((w.alloc (.cells #[.bool (decide (q.num < 0)), .int .u64 (lo q.num.natAbs : Int), .string (mo q.num.natAbs), .int .u64 (lo ((qden q)) : Int), .string (mo ((qden q)))] 56)).alloc (.cells #[.int .u64 0, .string ⟨#[]⟩] 52)) = W at *
  refine (HW.out W).mono ?_
  rintro e1 w1 ⟨rfl, j6⟩
  have aA := Ja hB j6
  have b1 := b1.below j6 b1.lt
  go_wp2_with fail
  refine (HOF.out w1).mono ?_
  rintro e1 w2 ⟨rfl, bD⟩
  have bN := Ja aA bD
  (try clear j9 o0 aQ aR aH aI); obtain ⟨b1, j9, o0, aQ, aR, aH, aI⟩ := b1.zf2 bD
  go_wp2
  refine bodyPost_ret (v := .agg #[.int .u64 (lo 1 : Int), .string (mo 1)]) (by simp [results, Tryz.results67, go_sem, aH, aI]) rfl ?_
  exact ⟨rfl, Xz bN (by omega) _ _⟩
 have e : decide (q.den = 1) = false := decide_eq_false h
 have e2 : qden q = q.den := by unfold qden; rw [if_neg h]
 rw [e] at hw
 have HW := lh hw
 clear hw e h
 unfold Jj
 unfold qV at HW ⊢
 obtain ⟨b0, b1, hB, hZ⟩ := bx2 w 56 #[.bool (decide (q.num < 0)), .int .u64 (lo q.num.natAbs : Int), .string (mo q.num.natAbs), .int .u64 (lo ((qden q)) : Int), .string (mo ((qden q)))] 52 #[.int .u64 0, .string ⟨#[]⟩]
 rw [e2] at HW b0 b1 hB hZ
 rw [e2]
 clear e2
 go_enter Tryz.func67, Tryz.ntmps67
 go_wp2_with fail
 generalize (w.alloc (.cells #[.bool (decide (q.num < 0)), .int .u64 (lo q.num.natAbs : Int), .string (mo q.num.natAbs), .int .u64 (lo q.den : Int), .string (mo q.den)] 56)).alloc (.cells #[.int .u64 0, .string ⟨#[]⟩] 52) = W at *
 refine (HW.out W).mono ?_
 rintro e1 w1 ⟨rfl, j6⟩
 have aA := Ja hB j6
 (try clear j7 j8 x9 aM aN); obtain ⟨b0, j7, j8, x9, aM, aN⟩ := b0.zc5 j6
 (try clear j9 o0 aQ aR aH aI); obtain ⟨b1, j9, o0, aQ, aR, aH, aI⟩ := b1.zf2 j6
 have n1 := neE w.heap.size
 go_wp2
 refine bodyPost_ret (v := .agg #[.int .u64 (lo q.den : Int), .string (mo q.den)]) (by simp [results, Tryz.results67, go_sem, aH, aI]) rfl ?_
 exact ⟨rfl, Xz aA (by omega) _ _⟩
theorem Jp2 (q : Rat) (w : World) : Calls Tryz.prog 105 #[qV q] w (Ret (Qa q.num) w) := by
 unfold qV Qa
 go_enter Tryz.func105, Tryz.ntmps105
 go_wp2
 go_returns
 exact ⟨rfl, by go_grown⟩
theorem Ye (q : Rat) (w : World) (hq : QS 1099511627776 q) : Calls Tryz.prog 49 #[qV q] w (Ret (.int .i64 q.num.sign) w) := by
 have hs := lh (fun w => Yp q.num w (by have := hq.1; omega))
 unfold qV
 unfold Qa at hs
 obtain ⟨b0, hB, hZ⟩ := bx1 w 56 #[.bool (decide (q.num < 0)), .int .u64 (lo q.num.natAbs : Int), .string (mo q.num.natAbs), .int .u64 (lo ((qden q)) : Int), .string (mo ((qden q)))]
 go_enter Tryz.func49, Tryz.ntmps49
 go_wp2_with fail
 generalize (w.alloc (.cells #[.bool (decide (q.num < 0)), .int .u64 (lo q.num.natAbs : Int), .string (mo q.num.natAbs), .int .u64 (lo ((qden q)) : Int), .string (mo ((qden q)))] 56)) = W at *
 refine (hs.out W).mono ?_
 rintro e1 w1 ⟨rfl, j6⟩
 go_wp2
 go_ret
 exact ⟨rfl, Ja hB j6⟩
theorem Jp3 (q : Rat) (w : World) (hq : QS 1099511627776 q) : Calls Tryz.prog 157 #[qV q] w (Ret (qV (-q)) w) := by
 have hs := lh (fun w => Jf1 q.num w hq.1)
 have e : qden (-q) = qden q := rfl
 unfold qV
 rw [e, Rat.neg_num, Int.natAbs_neg]
 unfold Qa at hs
 rw [Int.natAbs_neg] at hs
 clear e
 obtain ⟨ng, cJ⟩ : ∃ ng, decide (-q.num < 0) = ng := ⟨_, rfl⟩
 rw [cJ] at hs ⊢
 clear cJ
 have HS := hs
 generalize decide (q.num < 0) = nq at *
 obtain ⟨b0, b1, hB, hZ⟩ := bx2 w 56 #[.bool nq, .int .u64 (lo q.num.natAbs : Int), .string (mo q.num.natAbs), .int .u64 (lo (qden q) : Int), .string (mo (qden q))] 56 #[.bool false, .int .u64 0, .string ⟨#[]⟩, .int .u64 0, .string ⟨#[]⟩]
 go_enter Tryz.func157, Tryz.ntmps157
 go_wp2_with fail
 generalize ((w.alloc (.cells #[.bool nq, .int .u64 (lo q.num.natAbs : Int), .string (mo q.num.natAbs), .int .u64 (lo (qden q) : Int), .string (mo (qden q))] 56)).alloc (.cells #[.bool false, .int .u64 0, .string ⟨#[]⟩, .int .u64 0, .string ⟨#[]⟩] 56)) = W at *
 obtain ⟨j7, j8, x9, aM, aN⟩ := b0.c5; have c0 := b0.drew; have c1 := b1.drew; have ne0 : ¬ w.heap.size = w.heap.size + 1 := (by omega); have ne0x : ¬ w.heap.size + 1 = w.heap.size := (by omega); go_region_held3 (fun w' => w'.cell? ⟨w.heap.size, 0, none⟩ = some (.bool nq) /\ w'.cell? ⟨w.heap.size, 1, none⟩ = some (.int .u64 (lo q.num.natAbs : Int)) /\ w'.cell? ⟨w.heap.size, 2, none⟩ = some (.string (mo q.num.natAbs)) /\ w'.cell? ⟨w.heap.size, 3, none⟩ = some (.int .u64 (lo (qden q) : Int)) /\ w'.cell? ⟨w.heap.size, 4, none⟩ = some (.string (mo (qden q)))) (go_keep) (first | (go_at_call 108; refine (HS.out _).mono ?_; rintro e w1 ⟨rfl, aB⟩; (try clear o5 s9 t7 bO bP); obtain ⟨c0, o5, s9, t7, bO, bP⟩ := c0.zc5 aB; obtain ⟨c1, t8, x8, cK, cL, cM, cN, cO, cP, cQ, cR, bQ, bR, bS, bT, bU⟩ := c1.zf5 aB))
 all_goals
  go_wp2
  refine bodyPost_ret (v := .agg #[.bool ng, .int .u64 (lo q.num.natAbs : Int), .string (mo q.num.natAbs), .int .u64 (lo (qden q) : Int), .string (mo (qden q))]) (by simp [results, Tryz.results157, go_sem, bQ, bR, bS, bT, bU]) rfl ?_
  exact ⟨rfl, Qy (Ja hB (Jbq aB)) (by omega) _ _ _ _ _⟩
theorem Jbh (q : Rat) (w : World) (hq : QS 1099511627776 q) : Calls Tryz.prog 80 #[Qa q.num, Jj q.den] w (Ret (qV q) w) := by
 have aO := lh (fun w => Qx q.den w (by have := hq.2; omega))
 have h1 := Jj3 q.den
 have cU := hq.2
 unfold qV
 unfold Qa
 unfold Jj at aO ⊢
 obtain ⟨b0, b1, b2, hB, hZ⟩ := bx3 w 54 #[.bool (decide (q.num < 0)), .int .u64 (lo q.num.natAbs : Int), .string (mo q.num.natAbs)] 52 #[.int .u64 (lo q.den : Int), .string (mo q.den)] 56 #[.bool false, .int .u64 0, .string ⟨#[]⟩, .int .u64 0, .string ⟨#[]⟩]
 by_cases h : q.den = 1
 ·have e : qden q = 0 := (Yb q).2 h
  rw [e, Qc 0 (by omega), Jx 0 (by omega)]
  have e1 : ((Je q.den : Int) == 1) = true := by simp; omega
  have e2 : (Je q.den == 1) = true := by simp; omega
  clear e h h1
  go_enter Tryz.func80, Tryz.ntmps80
  go_wp2_with fail
  generalize (((w.alloc (.cells #[.bool (decide (q.num < 0)), .int .u64 (lo q.num.natAbs : Int), .string (mo q.num.natAbs)] 54)).alloc (.cells #[.int .u64 (lo q.den : Int), .string (mo q.den)] 52)).alloc (.cells #[.bool false, .int .u64 0, .string ⟨#[]⟩, .int .u64 0, .string ⟨#[]⟩] 56)) = W at *
  refine (aO.out W).mono ?_
  rintro e1 w1 ⟨rfl, j6⟩
  have aA := Ja hB j6
  (try clear j7 j8 x9); obtain ⟨b0, j7, j8, x9⟩ := b0.zc3 j6; (try clear j9 o0); obtain ⟨b1, j9, o0⟩ := b1.zc2 j6
  (try clear aC aD aS aT aU aE aF aV aW aX y8 y9 aJ aK aL); obtain ⟨b2, aC, aD, aS, aT, aU, aE, aF, aV, aW, aX, y8, y9, aJ, aK, aL⟩ := b2.zf5 j6
  go_wp2
  refine bodyPost_ret (v := .agg #[.bool (decide (q.num < 0)), .int .u64 (lo q.num.natAbs : Int), .string (mo q.num.natAbs), .int .u64 ((0 : Nat) : Int), .string ⟨#[]⟩]) (by simp [results, Tryz.results80, go_sem, y8, y9, aJ, aK, aL]) rfl ?_
  exact ⟨rfl, Qy aA (by omega) _ _ _ _ _⟩
 have e : qden q = q.den := by unfold qden; rw [if_neg h]
 rw [e]
 have e1 : ((Je q.den : Int) == 1) = false := by simp; omega
 have e2 : (Je q.den == 1) = false := by simp; omega
 clear e h h1
 go_enter Tryz.func80, Tryz.ntmps80
 go_wp2_with fail
 generalize (((w.alloc (.cells #[.bool (decide (q.num < 0)), .int .u64 (lo q.num.natAbs : Int), .string (mo q.num.natAbs)] 54)).alloc (.cells #[.int .u64 (lo q.den : Int), .string (mo q.den)] 52)).alloc (.cells #[.bool false, .int .u64 0, .string ⟨#[]⟩, .int .u64 0, .string ⟨#[]⟩] 56)) = W at *
 refine (aO.out W).mono ?_
 rintro e1 w1 ⟨rfl, j6⟩
 have aA := Ja hB j6
 (try clear j7 j8 x9); obtain ⟨b0, j7, j8, x9⟩ := b0.zc3 j6; (try clear j9 o0); obtain ⟨b1, j9, o0⟩ := b1.zc2 j6
 (try clear aC aD aS aT aU aE aF aV aW aX y8 y9 aJ aK aL); obtain ⟨b2, aC, aD, aS, aT, aU, aE, aF, aV, aW, aX, y8, y9, aJ, aK, aL⟩ := b2.zf5 j6
 go_wp2
 refine bodyPost_ret (v := .agg #[.bool (decide (q.num < 0)), .int .u64 (lo q.num.natAbs : Int), .string (mo q.num.natAbs), .int .u64 (lo q.den : Int), .string (mo q.den)]) (by simp [results, Tryz.results80, go_sem, y8, y9, aJ, aK, aL]) rfl ?_
 exact ⟨rfl, Qy aA (by omega) _ _ _ _ _⟩
theorem Yt (a b : Nat) (w : World) (ha : Je a <= 1099511627776) (hb : Je b <= 1099511627776) (bV : b ≠ 0) : Calls Tryz.prog 82 #[Jj a, Jj b] w (Ret (Jj (a / b)) w) := by
 have aO := lh (fun w => Qx b w (by omega))
 have aY := lh (fun w => Jdw a b w bV ha hb)
 have h1 := Jj3 b
 by_cases h : b = 1
 ·rw [h, Nat.div_one]
  rw [h] at aO aY h1
  have e1 : ((Je 1 : Int) == 1) = true := rfl
  have e2 : (Je 1 == 1) = true := rfl
  clear h1
  generalize 1 = b at *
  unfold Jj at aO aY ⊢
  obtain ⟨b0, b1, b2, hB, hZ⟩ := bx3 w 52 #[.int .u64 (lo a : Int), .string (mo a)] 52 #[.int .u64 (lo b : Int), .string (mo b)] 52 #[.int .u64 0, .string ⟨#[]⟩]
  go_enter Tryz.func82, Tryz.ntmps82
  go_wp2_with fail
  generalize (((w.alloc (.cells #[.int .u64 (lo a : Int), .string (mo a)] 52)).alloc (.cells #[.int .u64 (lo b : Int), .string (mo b)] 52)).alloc (.cells #[.int .u64 0, .string ⟨#[]⟩] 52)) = W at *
  refine (aO.out W).mono ?_
  rintro e1 w1 ⟨rfl, j6⟩
  have aA := Ja hB j6
  (try clear j7 j8); obtain ⟨b0, j7, j8⟩ := b0.zc2 j6; (try clear j9 o0); obtain ⟨b1, j9, o0⟩ := b1.zc2 j6
  (try clear aC aD aE aF y8 y9); obtain ⟨b2, aC, aD, aE, aF, y8, y9⟩ := b2.zf2 j6
  go_wp2
  refine bodyPost_ret (v := .agg #[.int .u64 (lo a : Int), .string (mo a)]) (by simp [results, Tryz.results82, go_sem, y8, y9]) rfl ?_
  exact ⟨rfl, Xz aA (by omega) _ _⟩
 have e1 : ((Je b : Int) == 1) = false := by simp; omega
 have e2 : (Je b == 1) = false := by simp; omega
 clear h1 h
 unfold Jj at aO aY ⊢
 generalize a / b = Q at *
 generalize a % b = R at *
 obtain ⟨b0, b1, b2, hB, hZ⟩ := bx3 w 52 #[.int .u64 (lo a : Int), .string (mo a)] 52 #[.int .u64 (lo b : Int), .string (mo b)] 52 #[.int .u64 0, .string ⟨#[]⟩]
 go_enter Tryz.func82, Tryz.ntmps82
 go_wp2_with fail
 generalize (((w.alloc (.cells #[.int .u64 (lo a : Int), .string (mo a)] 52)).alloc (.cells #[.int .u64 (lo b : Int), .string (mo b)] 52)).alloc (.cells #[.int .u64 0, .string ⟨#[]⟩] 52)) = W at *
 refine (aO.out W).mono ?_
 rintro e1 w1 ⟨rfl, j6⟩
 have aA := Ja hB j6
 (try clear j7 j8); obtain ⟨b0, j7, j8⟩ := b0.zc2 j6; (try clear j9 o0); obtain ⟨b1, j9, o0⟩ := b1.zc2 j6
 have b2 := b2.below j6 b2.lt
 go_wp2_with fail
 refine (aY.out w1).mono ?_
 rintro e1 w2 ⟨rfl, bD⟩
 have bN := Ja (Ja aA bD) (Jl w2 (.cells #[.int .u64 (lo Q : Int), .string (mo Q)] 52) (.cells #[.int .u64 (lo R : Int), .string (mo R)] 52))
 have bq := (Blk.new w2 52 #[.int .u64 (lo Q : Int), .string (mo Q)]).alloc (.cells #[.int .u64 (lo R : Int), .string (mo R)] 52)
 have b2 := ((b2.below bD b2.lt).alloc (.cells #[.int .u64 (lo Q : Int), .string (mo Q)] 52)).alloc (.cells #[.int .u64 (lo R : Int), .string (mo R)] 52)
 obtain ⟨cS, cT⟩ := bq.c2
 obtain ⟨aC, aD, aE, aF, y8, y9⟩ := b2.f2
 go_wp2
 refine bodyPost_ret (v := .agg #[.int .u64 (lo Q : Int), .string (mo Q)]) (by simp [results, Tryz.results82, go_sem, y8, y9]) rfl ?_
 exact ⟨rfl, Xz bN (by omega) _ _⟩
theorem Vu (n : Int) (d : Nat) (w : World) (hn : Je n.natAbs <= 1099511627776) (hd : Je d <= 1099511627776) : Calls Tryz.prog 66 #[Qa n, Jj d] w (Ret (Qa (n * d)) w) := by
 have aG := fun w => Qh false d w (by omega)
 have bJ := fun w => Jcs n d w hn (by rw [Int.natAbs_natCast]; exact hd)
 have e : signed false d = (d : Int) := rfl
 rw [e] at aG
 clear e
 generalize n * (d : Int) = N at *
 unfold Jj at aG ⊢
 unfold Qa at aG bJ ⊢
 generalize decide (n < 0) = ng at *
 generalize decide (N < 0) = nG at *
 generalize decide ((d : Int) < 0) = nd at *
 rw [Int.natAbs_natCast] at aG bJ
 have HFR := lh aG
 have HMU := lh bJ
 clear aG bJ
 obtain ⟨b0, b1, b2, hB, hZ⟩ := bx3 w 54 #[.bool ng, .int .u64 (lo n.natAbs : Int), .string (mo n.natAbs)] 52 #[.int .u64 (lo d : Int), .string (mo d)] 54 #[.bool false, .int .u64 0, .string ⟨#[]⟩]
 go_enter Tryz.func66, Tryz.ntmps66
 go_wp2_with fail
 generalize (((w.alloc (.cells #[.bool ng, .int .u64 (lo n.natAbs : Int), .string (mo n.natAbs)] 54)).alloc (.cells #[.int .u64 (lo d : Int), .string (mo d)] 52)).alloc (.cells #[.bool false, .int .u64 0, .string ⟨#[]⟩] 54)) = W at *
 obtain ⟨j7, j8, x9⟩ := b0.c3; obtain ⟨j9, o0⟩ := b1.c2; have c0 := b0.drew; have c1 := b1.drew; have c2 := b2.drew; have ne0 : ¬ w.heap.size = w.heap.size + 1 + 1 := (by omega); have ne0x : ¬ w.heap.size + 1 + 1 = w.heap.size := (by omega); have ne1 : ¬ w.heap.size + 1 = w.heap.size + 1 + 1 := (by omega); have ne1x : ¬ w.heap.size + 1 + 1 = w.heap.size + 1 := (by omega); go_region_held3 (fun w' => w'.cell? ⟨w.heap.size, 0, none⟩ = some (.bool ng) /\ w'.cell? ⟨w.heap.size, 1, none⟩ = some (.int .u64 (lo n.natAbs : Int)) /\ w'.cell? ⟨w.heap.size, 2, none⟩ = some (.string (mo n.natAbs)) /\ w'.cell? ⟨w.heap.size + 1, 0, none⟩ = some (.int .u64 (lo d : Int)) /\ w'.cell? ⟨w.heap.size + 1, 1, none⟩ = some (.string (mo d))) (go_keep) (first | (go_at_call 74; refine (HFR.out _).mono ?_; rintro e w1 ⟨rfl, aB⟩; (try clear o5 s9 t7); obtain ⟨c0, o5, s9, t7⟩ := c0.zc3 aB; (try clear t8 x8); obtain ⟨c1, t8, x8⟩ := c1.zc2 aB; have c2 := c2.below aB c2.lt) | (go_at_call 78; refine (HMU.out _).mono ?_; rintro e w2 ⟨rfl, aP⟩; (try clear o5 s9 t7); obtain ⟨c0, o5, s9, t7⟩ := c0.zc3 aP; (try clear t8 x8); obtain ⟨c1, t8, x8⟩ := c1.zc2 aP; obtain ⟨c2, bW, bX, bY, bZ, cA, cB, aZ, bA, bB⟩ := c2.zf3 aP))
 all_goals
  go_wp2
  refine bodyPost_ret (v := .agg #[.bool nG, .int .u64 (lo N.natAbs : Int), .string (mo N.natAbs)]) (by simp [results, Tryz.results66, go_sem, aZ, bA, bB]) rfl ?_
  exact ⟨rfl, Kh (Ja (Ja hB (Jbq aB)) aP) (by omega) _ _ _⟩
theorem Jix (n : Int) (b : Nat) (h : b ∣ n.natAbs) : signed (decide (n.sign < 0)) (n.natAbs / b) = n / (b : Int) := by
 unfold signed
 obtain ⟨k, hk⟩ := h
 rcases Nat.eq_zero_or_pos b with h0 | h0
 ·subst h0
  simp
 rw [hk, Nat.mul_div_cancel_left _ h0]
 by_cases hn : n < 0
 ·rw [Int.sign_eq_neg_one_of_neg hn, if_pos (by decide)]
  have e : n = (b : Int) * (-(k : Int)) := by
   rw [Int.mul_neg, <- Int.natCast_mul, <- hk]
   omega
  rw [e, Int.mul_ediv_cancel_left _ (by omega)]
 have hs : ¬ n.sign < 0 := by
  rcases Int.lt_trichotomy n 0 with h | h | h
  ·omega
  ·rw [h]; decide
  rw [Int.sign_eq_one_of_pos h]; decide
 rw [if_neg (by simpa using hs)]
 have e : n = (b : Int) * (k : Int) := by
  rw [<- Int.natCast_mul, <- hk]
  omega
 rw [e, Int.mul_ediv_cancel_left _ (by omega)]
theorem Jbg (n : Int) (b : Nat) (w : World) (hn : Je n.natAbs <= 1099511627776) (hb : Je b <= 1099511627776) (bV : b ≠ 0) (aY : b ∣ n.natAbs) : Calls Tryz.prog 81 #[Qa n, Jj b] w (Ret (Qa (n / (b : Int))) w) := by
 have cC := fun w => Yp n w (by omega)
 have bK := fun w => Uv n w
 have cD := fun w => Yt n.natAbs b w hn hb bV
 have aG := fun w => Qh (decide (n.sign < 0)) (n.natAbs / b) w (by have := Zn n.natAbs b; omega)
 rw [Jix n b aY] at aG
 generalize n.natAbs / b = q at *
 generalize n / (b : Int) = N at *
 generalize n.sign = sg at *
 clear aY
 unfold Jj at bK cD aG ⊢
 unfold Qa at cC bK aG ⊢
 generalize decide (n < 0) = ng at *
 generalize decide (N < 0) = nG at *
 have HSG := lh cC
 have HAB := lh bK
 have HOV := lh cD
 have HFR := lh aG
 clear cC bK cD aG
 obtain ⟨b0, b1, b2, hB, hZ⟩ := bx3 w 54 #[.bool ng, .int .u64 (lo n.natAbs : Int), .string (mo n.natAbs)] 52 #[.int .u64 (lo b : Int), .string (mo b)] 54 #[.bool false, .int .u64 0, .string ⟨#[]⟩]
 go_enter Tryz.func81, Tryz.ntmps81
 go_wp2_with fail
 generalize (((w.alloc (.cells #[.bool ng, .int .u64 (lo n.natAbs : Int), .string (mo n.natAbs)] 54)).alloc (.cells #[.int .u64 (lo b : Int), .string (mo b)] 52)).alloc (.cells #[.bool false, .int .u64 0, .string ⟨#[]⟩] 54)) = W at *
 obtain ⟨j7, j8, x9⟩ := b0.c3; obtain ⟨j9, o0⟩ := b1.c2; have c0 := b0.drew; have c1 := b1.drew; have c2 := b2.drew; have ne0 : ¬ w.heap.size = w.heap.size + 1 + 1 := (by omega); have ne0x : ¬ w.heap.size + 1 + 1 = w.heap.size := (by omega); have ne1 : ¬ w.heap.size + 1 = w.heap.size + 1 + 1 := (by omega); have ne1x : ¬ w.heap.size + 1 + 1 = w.heap.size + 1 := (by omega); go_region_held3 (fun w' => w'.cell? ⟨w.heap.size, 0, none⟩ = some (.bool ng) /\ w'.cell? ⟨w.heap.size, 1, none⟩ = some (.int .u64 (lo n.natAbs : Int)) /\ w'.cell? ⟨w.heap.size, 2, none⟩ = some (.string (mo n.natAbs)) /\ w'.cell? ⟨w.heap.size + 1, 0, none⟩ = some (.int .u64 (lo b : Int)) /\ w'.cell? ⟨w.heap.size + 1, 1, none⟩ = some (.string (mo b))) (go_keep) (first | (go_at_call 88; refine (HSG.out _).mono ?_; rintro e w1 ⟨rfl, aB⟩; (try clear o5 s9 t7); obtain ⟨c0, o5, s9, t7⟩ := c0.zc3 aB; (try clear t8 x8); obtain ⟨c1, t8, x8⟩ := c1.zc2 aB; have c2 := c2.below aB c2.lt) | (go_at_call 110; refine (HAB.out _).mono ?_; rintro e w2 ⟨rfl, aP⟩; (try clear o5 s9 t7); obtain ⟨c0, o5, s9, t7⟩ := c0.zc3 aP; (try clear t8 x8); obtain ⟨c1, t8, x8⟩ := c1.zc2 aP; have c2 := c2.below aP c2.lt) | (go_at_call 82; refine (HOV.out _).mono ?_; rintro e w3 ⟨rfl, bL⟩; (try clear o5 s9 t7); obtain ⟨c0, o5, s9, t7⟩ := c0.zc3 bL; (try clear t8 x8); obtain ⟨c1, t8, x8⟩ := c1.zc2 bL; have c2 := c2.below bL c2.lt) | (go_at_call 74; refine (HFR.out _).mono ?_; rintro e w4 ⟨rfl, bM⟩; (try clear o5 s9 t7); obtain ⟨c0, o5, s9, t7⟩ := c0.zc3 bM; (try clear t8 x8); obtain ⟨c1, t8, x8⟩ := c1.zc2 bM; obtain ⟨c2, bW, bX, bY, bZ, cA, cB, aZ, bA, bB⟩ := c2.zf3 bM))
 all_goals
  go_wp2
  refine bodyPost_ret (v := .agg #[.bool nG, .int .u64 (lo N.natAbs : Int), .string (mo N.natAbs)]) (by simp [results, Tryz.results81, go_sem, aZ, bA, bB]) rfl ?_
  exact ⟨rfl, Kh (Ja (Ja (Ja (Ja hB (Jbq aB)) aP) bL) bM) (by omega) _ _ _⟩
theorem Jbi (z : Int) (w : World) (h0 : -9223372036854775808 <= z) (h1 : z <= 9223372036854775807) : Calls Tryz.prog 38 #[.int .i64 z] w (Ret (qV (z : Rat)) w) := by
 have bC := fun w => Jog z w h0 h1
 have e : qV (z : Rat) = .agg #[.bool (decide (z < 0)), .int .u64 (lo z.natAbs : Int), .string (mo z.natAbs), .int .u64 0, .string ⟨#[]⟩] := rfl
 rw [e]
 unfold Qa at bC
 have HOF := lh bC
 clear bC e
 generalize decide (z < 0) = nz at *
 obtain ⟨b0, hB, hZ⟩ := bx1 w 56 #[.bool false, .int .u64 0, .string ⟨#[]⟩, .int .u64 0, .string ⟨#[]⟩]
 go_enter Tryz.func38, Tryz.ntmps38
 go_wp2_with fail
 generalize (w.alloc (.cells #[.bool false, .int .u64 0, .string ⟨#[]⟩, .int .u64 0, .string ⟨#[]⟩] 56)) = W at *
 refine (HOF.out W).mono ?_
 rintro e1 w1 ⟨rfl, j6⟩
 have aA := Ja hB j6
 (try clear j7 j8 x9 aM aN cE cF cG cH cI bE bF bG bH bI); obtain ⟨b0, j7, j8, x9, aM, aN, cE, cF, cG, cH, cI, bE, bF, bG, bH, bI⟩ := b0.zf5 j6
 go_wp2
 refine bodyPost_ret (v := .agg #[.bool nz, .int .u64 (lo z.natAbs : Int), .string (mo z.natAbs), .int .u64 0, .string ⟨#[]⟩]) (by simp [results, Tryz.results38, go_sem, bE, bF, bG, bH, bI]) rfl ?_
 exact ⟨rfl, Qy aA (by omega) _ _ _ _ _⟩
