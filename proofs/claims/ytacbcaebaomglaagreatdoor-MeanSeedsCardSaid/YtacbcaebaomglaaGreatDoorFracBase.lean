import Derived.Test.YtacbcaebaomglaaGreatDoorWholeM
import Derived.Test.YtacbcaebaomglaaGreatDoorNatDiv
namespace Go.Proofs.YtacbcaebaomglaaGreatDoor
set_option maxRecDepth 100000
set_option maxHeartbeats 400000
open Go.RowKit
set_option linter.all false
theorem Qn (q : Rat) (w : World) (hq : QS 1099511627776 q) : Calls Tryz.prog 72 #[qV q] w (Ret (.bool (decide (q.den = 1))) w) := by
 have hb := hq.qden
 have hz := Yg q
 have hp := Qz (qden q)
 have e : ((Je (qden q) : Int) == 0) = decide (q.den = 1) := by
  rw [Bool.eq_iff_iff]
  simp
  omega
 have e2 : (Je (qden q) == 0) = decide (q.den = 1) := by
  rw [Bool.eq_iff_iff]
  simp
  omega
 have HE := lh (And.intro e e2)
 obtain ⟨r, hr⟩ : ∃ r, decide (q.den = 1) = r := ⟨_, rfl⟩
 rw [hr] at HE e e2
 rw [hr]
 clear hr hz hp
 unfold qV
 obtain ⟨b0, hB, hZ⟩ := bx1 w 65 #[.bool (decide (q.num < 0)), .int .u64 (lo q.num.natAbs : Int), .string (mo q.num.natAbs), .int .u64 (lo ((qden q)) : Int), .string (mo ((qden q)))]
 go_enter Tryz.func72, Tryz.ntmps72
 go_wp2_with fail
 generalize (w.alloc (.cells #[.bool (decide (q.num < 0)), .int .u64 (lo q.num.natAbs : Int), .string (mo q.num.natAbs), .int .u64 (lo ((qden q)) : Int), .string (mo ((qden q)))] 65)) = W at *
 refine (Qr (qden q) W (by omega)).mono ?_
 rintro e1 w1 ⟨rfl, e8⟩
 go_wp2
 go_ret
 exact ⟨rfl, Ja hB e8⟩
theorem Kg (q : Rat) (w : World) (hq : QS 1099511627776 q) : Calls Tryz.prog 75 #[qV q] w (Ret (Jh q.den) w) := by
 have hw := fun w => Qn q w hq
 by_cases h : q.den = 1
 ·have e : decide (q.den = 1) = true := decide_eq_true h
  rw [e] at hw
  rw [h]
  have aQ := fun w => Jgj 1 w (by omega)
  have HW := lh hw
  have HOF := lh aQ
  clear hw aQ e h
  unfold Jh at HOF ⊢
  unfold qV at HW ⊢
  obtain ⟨b0, b1, hB, hZ⟩ := bx2 w 65 #[.bool (decide (q.num < 0)), .int .u64 (lo q.num.natAbs : Int), .string (mo q.num.natAbs), .int .u64 (lo ((qden q)) : Int), .string (mo ((qden q)))] 61 #[.int .u64 0, .string ⟨#[]⟩]
  go_enter Tryz.func75, Tryz.ntmps75
  go_wp2_with fail
  generalize ((w.alloc (.cells #[.bool (decide (q.num < 0)), .int .u64 (lo q.num.natAbs : Int), .string (mo q.num.natAbs), .int .u64 (lo ((qden q)) : Int), .string (mo ((qden q)))] 65)).alloc (.cells #[.int .u64 0, .string ⟨#[]⟩] 61)) = W at *
  refine (HW.out W).mono ?_
  rintro e1 w1 ⟨rfl, e8⟩
  have p8 := Ja hB e8
  have b1 := b1.below e8 b1.lt
  go_wp2_with fail
  refine (HOF.out w1).mono ?_
  rintro e1 w2 ⟨rfl, aR⟩
  have bB := Ja p8 aR
  (try clear j6 j7 aE aF x7 x8); obtain ⟨b1, j6, j7, aE, aF, x7, x8⟩ := b1.zf2 aR
  go_wp2
  refine bodyPost_ret (v := .agg #[.int .u64 (lo 1 : Int), .string (mo 1)]) (by simp [results, Tryz.results75, go_sem, x7, x8]) rfl ?_
  exact ⟨rfl, Za bB (by omega) _ _⟩
 have e : decide (q.den = 1) = false := decide_eq_false h
 have e2 : qden q = q.den := by unfold qden; rw [if_neg h]
 rw [e] at hw
 have HW := lh hw
 clear hw e h
 unfold Jh
 unfold qV at HW ⊢
 obtain ⟨b0, b1, hB, hZ⟩ := bx2 w 65 #[.bool (decide (q.num < 0)), .int .u64 (lo q.num.natAbs : Int), .string (mo q.num.natAbs), .int .u64 (lo ((qden q)) : Int), .string (mo ((qden q)))] 61 #[.int .u64 0, .string ⟨#[]⟩]
 rw [e2] at HW b0 b1 hB hZ
 rw [e2]
 clear e2
 go_enter Tryz.func75, Tryz.ntmps75
 go_wp2_with fail
 generalize (w.alloc (.cells #[.bool (decide (q.num < 0)), .int .u64 (lo q.num.natAbs : Int), .string (mo q.num.natAbs), .int .u64 (lo q.den : Int), .string (mo q.den)] 65)).alloc (.cells #[.int .u64 0, .string ⟨#[]⟩] 61) = W at *
 refine (HW.out W).mono ?_
 rintro e1 w1 ⟨rfl, e8⟩
 have p8 := Ja hB e8
 (try clear e9 j0 o8 aA aB); obtain ⟨b0, e9, j0, o8, aA, aB⟩ := b0.zc5 e8
 (try clear j6 j7 aE aF x7 x8); obtain ⟨b1, j6, j7, aE, aF, x7, x8⟩ := b1.zf2 e8
 have n1 := neE w.heap.size
 go_wp2
 refine bodyPost_ret (v := .agg #[.int .u64 (lo q.den : Int), .string (mo q.den)]) (by simp [results, Tryz.results75, go_sem, x7, x8]) rfl ?_
 exact ⟨rfl, Za p8 (by omega) _ _⟩
theorem Jmj (q : Rat) (w : World) : Calls Tryz.prog 133 #[qV q] w (Ret (Jx q.num) w) := by
 unfold qV Jx
 go_enter Tryz.func133, Tryz.ntmps133
 go_wp2
 go_returns
 exact ⟨rfl, by go_grown⟩
theorem Jco (q : Rat) (w : World) (hq : QS 1099511627776 q) : Calls Tryz.prog 52 #[qV q] w (Ret (.int .i64 q.num.sign) w) := by
 have hs := lh (fun w => Yu q.num w (by have := hq.1; omega))
 unfold qV
 unfold Jx at hs
 obtain ⟨b0, hB, hZ⟩ := bx1 w 65 #[.bool (decide (q.num < 0)), .int .u64 (lo q.num.natAbs : Int), .string (mo q.num.natAbs), .int .u64 (lo ((qden q)) : Int), .string (mo ((qden q)))]
 go_enter Tryz.func52, Tryz.ntmps52
 go_wp2_with fail
 generalize (w.alloc (.cells #[.bool (decide (q.num < 0)), .int .u64 (lo q.num.natAbs : Int), .string (mo q.num.natAbs), .int .u64 (lo ((qden q)) : Int), .string (mo ((qden q)))] 65)) = W at *
 refine (hs.out W).mono ?_
 rintro e1 w1 ⟨rfl, e8⟩
 go_wp2
 go_ret
 exact ⟨rfl, Ja hB e8⟩
theorem Jmk (q : Rat) (w : World) (hq : QS 1099511627776 q) : Calls Tryz.prog 172 #[qV q] w (Ret (qV (-q)) w) := by
 have hs := lh (fun w => Je6 q.num w hq.1)
 have e : qden (-q) = qden q := rfl
 unfold qV
 rw [e, Rat.neg_num, Int.natAbs_neg]
 unfold Jx at hs
 rw [Int.natAbs_neg] at hs
 clear e
 obtain ⟨ng, bX⟩ : ∃ ng, decide (-q.num < 0) = ng := ⟨_, rfl⟩
 rw [bX] at hs ⊢
 clear bX
 have HS := hs
 generalize decide (q.num < 0) = nq at *
 obtain ⟨b0, b1, hB, hZ⟩ := bx2 w 65 #[.bool nq, .int .u64 (lo q.num.natAbs : Int), .string (mo q.num.natAbs), .int .u64 (lo (qden q) : Int), .string (mo (qden q))] 65 #[.bool false, .int .u64 0, .string ⟨#[]⟩, .int .u64 0, .string ⟨#[]⟩]
 go_enter Tryz.func172, Tryz.ntmps172
 go_wp2_with fail
 generalize ((w.alloc (.cells #[.bool nq, .int .u64 (lo q.num.natAbs : Int), .string (mo q.num.natAbs), .int .u64 (lo (qden q) : Int), .string (mo (qden q))] 65)).alloc (.cells #[.bool false, .int .u64 0, .string ⟨#[]⟩, .int .u64 0, .string ⟨#[]⟩] 65)) = W at *
 obtain ⟨e9, j0, o8, aA, aB⟩ := b0.c5; have c0 := b0.drew; have c1 := b1.drew; have ne0 : ¬ w.heap.size = w.heap.size + 1 := (by omega); have ne0x : ¬ w.heap.size + 1 = w.heap.size := (by omega); go_region_held3 (fun w' => w'.cell? ⟨w.heap.size, 0, none⟩ = some (.bool nq) /\ w'.cell? ⟨w.heap.size, 1, none⟩ = some (.int .u64 (lo q.num.natAbs : Int)) /\ w'.cell? ⟨w.heap.size, 2, none⟩ = some (.string (mo q.num.natAbs)) /\ w'.cell? ⟨w.heap.size, 3, none⟩ = some (.int .u64 (lo (qden q) : Int)) /\ w'.cell? ⟨w.heap.size, 4, none⟩ = some (.string (mo (qden q)))) (go_keep) (first | (go_at_call 112; refine (HS.out _).mono ?_; rintro e w1 ⟨rfl, p9⟩; (try clear j8 j9 o0 bC bD); obtain ⟨c0, j8, j9, o0, bC, bD⟩ := c0.zc5 p9; obtain ⟨c1, o6, o7, bY, bZ, cA, cB, cC, cD, cE, cF, bE, bF, bG, bH, bI⟩ := c1.zf5 p9))
 all_goals
  go_wp2
  refine bodyPost_ret (v := .agg #[.bool ng, .int .u64 (lo q.num.natAbs : Int), .string (mo q.num.natAbs), .int .u64 (lo (qden q) : Int), .string (mo (qden q))]) (by simp [results, Tryz.results172, go_sem, bE, bF, bG, bH, bI]) rfl ?_
  exact ⟨rfl, Yt (Ja hB (Ja9 p9)) (by omega) _ _ _ _ _⟩
theorem Ja1 (q : Rat) (w : World) (hq : QS 1099511627776 q) : Calls Tryz.prog 76 #[Jx q.num, Jh q.den] w (Ret (qV q) w) := by
 have aC := lh (fun w => Qr q.den w (by have := hq.2; omega))
 have h1 := Jim q.den
 have cI := hq.2
 unfold qV
 unfold Jx
 unfold Jh at aC ⊢
 obtain ⟨b0, b1, b2, hB, hZ⟩ := bx3 w 63 #[.bool (decide (q.num < 0)), .int .u64 (lo q.num.natAbs : Int), .string (mo q.num.natAbs)] 61 #[.int .u64 (lo q.den : Int), .string (mo q.den)] 65 #[.bool false, .int .u64 0, .string ⟨#[]⟩, .int .u64 0, .string ⟨#[]⟩]
 by_cases h : q.den = 1
 ·have e : qden q = 0 := (Yg q).2 h
  rw [e, Qa 0 (by omega), Ju 0 (by omega)]
  have e1 : ((Je q.den : Int) == 1) = true := by simp; omega
  have e2 : (Je q.den == 1) = true := by simp; omega
  clear e h h1
  go_enter Tryz.func76, Tryz.ntmps76
  go_wp2_with fail
  generalize (((w.alloc (.cells #[.bool (decide (q.num < 0)), .int .u64 (lo q.num.natAbs : Int), .string (mo q.num.natAbs)] 63)).alloc (.cells #[.int .u64 (lo q.den : Int), .string (mo q.den)] 61)).alloc (.cells #[.bool false, .int .u64 0, .string ⟨#[]⟩, .int .u64 0, .string ⟨#[]⟩] 65)) = W at *
  refine (aC.out W).mono ?_
  rintro e1 w1 ⟨rfl, e8⟩
  have p8 := Ja hB e8
  (try clear e9 j0 o8); obtain ⟨b0, e9, j0, o8⟩ := b0.zc3 e8; (try clear j6 j7); obtain ⟨b1, j6, j7⟩ := b1.zc2 e8
  (try clear q8 s9 aG aH aI t7 t8 aJ aK aL o9 p7 x9 y8 y9); obtain ⟨b2, q8, s9, aG, aH, aI, t7, t8, aJ, aK, aL, o9, p7, x9, y8, y9⟩ := b2.zf5 e8
  go_wp2
  refine bodyPost_ret (v := .agg #[.bool (decide (q.num < 0)), .int .u64 (lo q.num.natAbs : Int), .string (mo q.num.natAbs), .int .u64 ((0 : Nat) : Int), .string ⟨#[]⟩]) (by simp [results, Tryz.results76, go_sem, o9, p7, x9, y8, y9]) rfl ?_
  exact ⟨rfl, Yt p8 (by omega) _ _ _ _ _⟩
 have e : qden q = q.den := by unfold qden; rw [if_neg h]
 rw [e]
 have e1 : ((Je q.den : Int) == 1) = false := by simp; omega
 have e2 : (Je q.den == 1) = false := by simp; omega
 clear e h h1
 go_enter Tryz.func76, Tryz.ntmps76
 go_wp2_with fail
 generalize (((w.alloc (.cells #[.bool (decide (q.num < 0)), .int .u64 (lo q.num.natAbs : Int), .string (mo q.num.natAbs)] 63)).alloc (.cells #[.int .u64 (lo q.den : Int), .string (mo q.den)] 61)).alloc (.cells #[.bool false, .int .u64 0, .string ⟨#[]⟩, .int .u64 0, .string ⟨#[]⟩] 65)) = W at *
 refine (aC.out W).mono ?_
 rintro e1 w1 ⟨rfl, e8⟩
 have p8 := Ja hB e8
 (try clear e9 j0 o8); obtain ⟨b0, e9, j0, o8⟩ := b0.zc3 e8; (try clear j6 j7); obtain ⟨b1, j6, j7⟩ := b1.zc2 e8
 (try clear q8 s9 aG aH aI t7 t8 aJ aK aL o9 p7 x9 y8 y9); obtain ⟨b2, q8, s9, aG, aH, aI, t7, t8, aJ, aK, aL, o9, p7, x9, y8, y9⟩ := b2.zf5 e8
 go_wp2
 refine bodyPost_ret (v := .agg #[.bool (decide (q.num < 0)), .int .u64 (lo q.num.natAbs : Int), .string (mo q.num.natAbs), .int .u64 (lo q.den : Int), .string (mo q.den)]) (by simp [results, Tryz.results76, go_sem, o9, p7, x9, y8, y9]) rfl ?_
 exact ⟨rfl, Yt p8 (by omega) _ _ _ _ _⟩
theorem Yw (a b : Nat) (w : World) (ha : Je a <= 1099511627776) (hb : Je b <= 1099511627776) (bJ : b ≠ 0) : Calls Tryz.prog 78 #[Jh a, Jh b] w (Ret (Jh (a / b)) w) := by
 have aC := lh (fun w => Qr b w (by omega))
 have aM := lh (fun w => Jdc a b w bJ ha hb)
 have h1 := Jim b
 by_cases h : b = 1
 ·rw [h, Nat.div_one]
  rw [h] at aC aM h1
  have e1 : ((Je 1 : Int) == 1) = true := rfl
  have e2 : (Je 1 == 1) = true := rfl
  clear h1
  generalize 1 = b at *
  unfold Jh at aC aM ⊢
  obtain ⟨b0, b1, b2, hB, hZ⟩ := bx3 w 61 #[.int .u64 (lo a : Int), .string (mo a)] 61 #[.int .u64 (lo b : Int), .string (mo b)] 61 #[.int .u64 0, .string ⟨#[]⟩]
  go_enter Tryz.func78, Tryz.ntmps78
  go_wp2_with fail
  generalize (((w.alloc (.cells #[.int .u64 (lo a : Int), .string (mo a)] 61)).alloc (.cells #[.int .u64 (lo b : Int), .string (mo b)] 61)).alloc (.cells #[.int .u64 0, .string ⟨#[]⟩] 61)) = W at *
  refine (aC.out W).mono ?_
  rintro e1 w1 ⟨rfl, e8⟩
  have p8 := Ja hB e8
  (try clear e9 j0); obtain ⟨b0, e9, j0⟩ := b0.zc2 e8; (try clear j6 j7); obtain ⟨b1, j6, j7⟩ := b1.zc2 e8
  (try clear q8 s9 t7 t8 o9 p7); obtain ⟨b2, q8, s9, t7, t8, o9, p7⟩ := b2.zf2 e8
  go_wp2
  refine bodyPost_ret (v := .agg #[.int .u64 (lo a : Int), .string (mo a)]) (by simp [results, Tryz.results78, go_sem, o9, p7]) rfl ?_
  exact ⟨rfl, Za p8 (by omega) _ _⟩
 have e1 : ((Je b : Int) == 1) = false := by simp; omega
 have e2 : (Je b == 1) = false := by simp; omega
 clear h1 h
 unfold Jh at aC aM ⊢
 generalize a / b = Q at *
 generalize a % b = R at *
 obtain ⟨b0, b1, b2, hB, hZ⟩ := bx3 w 61 #[.int .u64 (lo a : Int), .string (mo a)] 61 #[.int .u64 (lo b : Int), .string (mo b)] 61 #[.int .u64 0, .string ⟨#[]⟩]
 go_enter Tryz.func78, Tryz.ntmps78
 go_wp2_with fail
 generalize (((w.alloc (.cells #[.int .u64 (lo a : Int), .string (mo a)] 61)).alloc (.cells #[.int .u64 (lo b : Int), .string (mo b)] 61)).alloc (.cells #[.int .u64 0, .string ⟨#[]⟩] 61)) = W at *
 refine (aC.out W).mono ?_
 rintro e1 w1 ⟨rfl, e8⟩
 have p8 := Ja hB e8
 (try clear e9 j0); obtain ⟨b0, e9, j0⟩ := b0.zc2 e8; (try clear j6 j7); obtain ⟨b1, j6, j7⟩ := b1.zc2 e8
 have b2 := b2.below e8 b2.lt
 go_wp2_with fail
 refine (aM.out w1).mono ?_
 rintro e1 w2 ⟨rfl, aR⟩
 have bB := Ja (Ja p8 aR) (Jj w2 (.cells #[.int .u64 (lo Q : Int), .string (mo Q)] 61) (.cells #[.int .u64 (lo R : Int), .string (mo R)] 61))
 have bq := (Blk.new w2 61 #[.int .u64 (lo Q : Int), .string (mo Q)]).alloc (.cells #[.int .u64 (lo R : Int), .string (mo R)] 61)
 have b2 := ((b2.below aR b2.lt).alloc (.cells #[.int .u64 (lo Q : Int), .string (mo Q)] 61)).alloc (.cells #[.int .u64 (lo R : Int), .string (mo R)] 61)
 obtain ⟨cG, cH⟩ := bq.c2
 obtain ⟨q8, s9, t7, t8, o9, p7⟩ := b2.f2
 go_wp2
 refine bodyPost_ret (v := .agg #[.int .u64 (lo Q : Int), .string (mo Q)]) (by simp [results, Tryz.results78, go_sem, o9, p7]) rfl ?_
 exact ⟨rfl, Za bB (by omega) _ _⟩
theorem Vm (n : Int) (d : Nat) (w : World) (hn : Je n.natAbs <= 1099511627776) (hd : Je d <= 1099511627776) : Calls Tryz.prog 81 #[Jx n, Jh d] w (Ret (Jx (n * d)) w) := by
 have u4 := fun w => Qc false d w (by omega)
 have aX := fun w => Jb8 n d w hn (by rw [Int.natAbs_natCast]; exact hd)
 have e : signed false d = (d : Int) := rfl
 rw [e] at u4
 clear e
 generalize n * (d : Int) = N at *
 unfold Jh at u4 ⊢
 unfold Jx at u4 aX ⊢
 generalize decide (n < 0) = ng at *
 generalize decide (N < 0) = nG at *
 generalize decide ((d : Int) < 0) = nd at *
 rw [Int.natAbs_natCast] at u4 aX
 have HFR := lh u4
 have HMU := lh aX
 clear u4 aX
 obtain ⟨b0, b1, b2, hB, hZ⟩ := bx3 w 63 #[.bool ng, .int .u64 (lo n.natAbs : Int), .string (mo n.natAbs)] 61 #[.int .u64 (lo d : Int), .string (mo d)] 63 #[.bool false, .int .u64 0, .string ⟨#[]⟩]
 go_enter Tryz.func81, Tryz.ntmps81
 go_wp2_with fail
 generalize (((w.alloc (.cells #[.bool ng, .int .u64 (lo n.natAbs : Int), .string (mo n.natAbs)] 63)).alloc (.cells #[.int .u64 (lo d : Int), .string (mo d)] 61)).alloc (.cells #[.bool false, .int .u64 0, .string ⟨#[]⟩] 63)) = W at *
 obtain ⟨e9, j0, o8⟩ := b0.c3; obtain ⟨j6, j7⟩ := b1.c2; have c0 := b0.drew; have c1 := b1.drew; have c2 := b2.drew; have ne0 : ¬ w.heap.size = w.heap.size + 1 + 1 := (by omega); have ne0x : ¬ w.heap.size + 1 + 1 = w.heap.size := (by omega); have ne1 : ¬ w.heap.size + 1 = w.heap.size + 1 + 1 := (by omega); have ne1x : ¬ w.heap.size + 1 + 1 = w.heap.size + 1 := (by omega); go_region_held3 (fun w' => w'.cell? ⟨w.heap.size, 0, none⟩ = some (.bool ng) /\ w'.cell? ⟨w.heap.size, 1, none⟩ = some (.int .u64 (lo n.natAbs : Int)) /\ w'.cell? ⟨w.heap.size, 2, none⟩ = some (.string (mo n.natAbs)) /\ w'.cell? ⟨w.heap.size + 1, 0, none⟩ = some (.int .u64 (lo d : Int)) /\ w'.cell? ⟨w.heap.size + 1, 1, none⟩ = some (.string (mo d))) (go_keep) (first | (go_at_call 67; refine (HFR.out _).mono ?_; rintro e w1 ⟨rfl, p9⟩; (try clear j8 j9 o0); obtain ⟨c0, j8, j9, o0⟩ := c0.zc3 p9; (try clear o6 o7); obtain ⟨c1, o6, o7⟩ := c1.zc2 p9; have c2 := c2.below p9 c2.lt) | (go_at_call 73; refine (HMU.out _).mono ?_; rintro e w2 ⟨rfl, aD⟩; (try clear j8 j9 o0); obtain ⟨c0, j8, j9, o0⟩ := c0.zc3 aD; (try clear o6 o7); obtain ⟨c1, o6, o7⟩ := c1.zc2 aD; obtain ⟨c2, bK, bL, bM, bN, bO, bP, aN, aO, aP⟩ := c2.zf3 aD))
 all_goals
  go_wp2
  refine bodyPost_ret (v := .agg #[.bool nG, .int .u64 (lo N.natAbs : Int), .string (mo N.natAbs)]) (by simp [results, Tryz.results81, go_sem, aN, aO, aP]) rfl ?_
  exact ⟨rfl, Ki (Ja (Ja hB (Ja9 p9)) aD) (by omega) _ _ _⟩
theorem Jhv (n : Int) (b : Nat) (h : b ∣ n.natAbs) : signed (decide (n.sign < 0)) (n.natAbs / b) = n / (b : Int) := by
 unfold signed
 obtain ⟨k, hk⟩ := h
 rcases Nat.eq_zero_or_pos b with h0 | h0
 ·subst h0
  simp
 rw [hk, Nat.mul_div_cancel_left _ h0]
 by_cases hn : n < 0
 ·rw [Int.sign_eq_neg_one_of_neg hn, if_pos (by decide)]
  have e : n = (b : Int) * (-(k : Int)) := by
   rw [Int.mul_neg, <- Int.natCast_mul, <- hk]
   omega
  rw [e, Int.mul_ediv_cancel_left _ (by omega)]
 have hs : ¬ n.sign < 0 := by
  rcases Int.lt_trichotomy n 0 with h | h | h
  ·omega
  ·rw [h]; decide
  rw [Int.sign_eq_one_of_pos h]; decide
 rw [if_neg (by simpa using hs)]
 have e : n = (b : Int) * (k : Int) := by
  rw [<- Int.natCast_mul, <- hk]
  omega
 rw [e, Int.mul_ediv_cancel_left _ (by omega)]
theorem Ja0 (n : Int) (b : Nat) (w : World) (hn : Je n.natAbs <= 1099511627776) (hb : Je b <= 1099511627776) (bJ : b ≠ 0) (aM : b ∣ n.natAbs) : Calls Tryz.prog 77 #[Jx n, Jh b] w (Ret (Jx (n / (b : Int))) w) := by
 have bQ := fun w => Yu n w (by omega)
 have aY := fun w => Ur n w
 have bR := fun w => Yw n.natAbs b w hn hb bJ
 have u4 := fun w => Qc (decide (n.sign < 0)) (n.natAbs / b) w (by have := Zo n.natAbs b; omega)
 rw [Jhv n b aM] at u4
 generalize n.natAbs / b = q at *
 generalize n / (b : Int) = N at *
 generalize n.sign = sg at *
 clear aM
 unfold Jh at aY bR u4 ⊢
 unfold Jx at bQ aY u4 ⊢
 generalize decide (n < 0) = ng at *
 generalize decide (N < 0) = nG at *
 have HSG := lh bQ
 have HAB := lh aY
 have HOV := lh bR
 have HFR := lh u4
 clear bQ aY bR u4
 obtain ⟨b0, b1, b2, hB, hZ⟩ := bx3 w 63 #[.bool ng, .int .u64 (lo n.natAbs : Int), .string (mo n.natAbs)] 61 #[.int .u64 (lo b : Int), .string (mo b)] 63 #[.bool false, .int .u64 0, .string ⟨#[]⟩]
 go_enter Tryz.func77, Tryz.ntmps77
 go_wp2_with fail
 generalize (((w.alloc (.cells #[.bool ng, .int .u64 (lo n.natAbs : Int), .string (mo n.natAbs)] 63)).alloc (.cells #[.int .u64 (lo b : Int), .string (mo b)] 61)).alloc (.cells #[.bool false, .int .u64 0, .string ⟨#[]⟩] 63)) = W at *
 obtain ⟨e9, j0, o8⟩ := b0.c3; obtain ⟨j6, j7⟩ := b1.c2; have c0 := b0.drew; have c1 := b1.drew; have c2 := b2.drew; have ne0 : ¬ w.heap.size = w.heap.size + 1 + 1 := (by omega); have ne0x : ¬ w.heap.size + 1 + 1 = w.heap.size := (by omega); have ne1 : ¬ w.heap.size + 1 = w.heap.size + 1 + 1 := (by omega); have ne1x : ¬ w.heap.size + 1 + 1 = w.heap.size + 1 := (by omega); go_region_held3 (fun w' => w'.cell? ⟨w.heap.size, 0, none⟩ = some (.bool ng) /\ w'.cell? ⟨w.heap.size, 1, none⟩ = some (.int .u64 (lo n.natAbs : Int)) /\ w'.cell? ⟨w.heap.size, 2, none⟩ = some (.string (mo n.natAbs)) /\ w'.cell? ⟨w.heap.size + 1, 0, none⟩ = some (.int .u64 (lo b : Int)) /\ w'.cell? ⟨w.heap.size + 1, 1, none⟩ = some (.string (mo b))) (go_keep) (first | (go_at_call 98; refine (HSG.out _).mono ?_; rintro e w1 ⟨rfl, p9⟩; (try clear j8 j9 o0); obtain ⟨c0, j8, j9, o0⟩ := c0.zc3 p9; (try clear o6 o7); obtain ⟨c1, o6, o7⟩ := c1.zc2 p9; have c2 := c2.below p9 c2.lt) | (go_at_call 114; refine (HAB.out _).mono ?_; rintro e w2 ⟨rfl, aD⟩; (try clear j8 j9 o0); obtain ⟨c0, j8, j9, o0⟩ := c0.zc3 aD; (try clear o6 o7); obtain ⟨c1, o6, o7⟩ := c1.zc2 aD; have c2 := c2.below aD c2.lt) | (go_at_call 78; refine (HOV.out _).mono ?_; rintro e w3 ⟨rfl, aZ⟩; (try clear j8 j9 o0); obtain ⟨c0, j8, j9, o0⟩ := c0.zc3 aZ; (try clear o6 o7); obtain ⟨c1, o6, o7⟩ := c1.zc2 aZ; have c2 := c2.below aZ c2.lt) | (go_at_call 67; refine (HFR.out _).mono ?_; rintro e w4 ⟨rfl, bA⟩; (try clear j8 j9 o0); obtain ⟨c0, j8, j9, o0⟩ := c0.zc3 bA; (try clear o6 o7); obtain ⟨c1, o6, o7⟩ := c1.zc2 bA; obtain ⟨c2, bK, bL, bM, bN, bO, bP, aN, aO, aP⟩ := c2.zf3 bA))
 all_goals
  go_wp2
  refine bodyPost_ret (v := .agg #[.bool nG, .int .u64 (lo N.natAbs : Int), .string (mo N.natAbs)]) (by simp [results, Tryz.results77, go_sem, aN, aO, aP]) rfl ?_
  exact ⟨rfl, Ki (Ja (Ja (Ja (Ja hB (Ja9 p9)) aD) aZ) bA) (by omega) _ _ _⟩
theorem Jnp (z : Int) (w : World) (h0 : -9223372036854775808 <= z) (h1 : z <= 9223372036854775807) : Calls Tryz.prog 35 #[.int .i64 z] w (Ret (qV (z : Rat)) w) := by
 have aQ := fun w => Jli z w h0 h1
 have e : qV (z : Rat) = .agg #[.bool (decide (z < 0)), .int .u64 (lo z.natAbs : Int), .string (mo z.natAbs), .int .u64 0, .string ⟨#[]⟩] := rfl
 rw [e]
 unfold Jx at aQ
 have HOF := lh aQ
 clear aQ e
 generalize decide (z < 0) = nz at *
 obtain ⟨b0, hB, hZ⟩ := bx1 w 65 #[.bool false, .int .u64 0, .string ⟨#[]⟩, .int .u64 0, .string ⟨#[]⟩]
 go_enter Tryz.func35, Tryz.ntmps35
 go_wp2_with fail
 generalize (w.alloc (.cells #[.bool false, .int .u64 0, .string ⟨#[]⟩, .int .u64 0, .string ⟨#[]⟩] 65)) = W at *
 refine (HOF.out W).mono ?_
 rintro e1 w1 ⟨rfl, e8⟩
 have p8 := Ja hB e8
 (try clear e9 j0 o8 aA aB bS bT bU bV bW aS aT aU aV aW); obtain ⟨b0, e9, j0, o8, aA, aB, bS, bT, bU, bV, bW, aS, aT, aU, aV, aW⟩ := b0.zf5 e8
 go_wp2
 refine bodyPost_ret (v := .agg #[.bool nz, .int .u64 (lo z.natAbs : Int), .string (mo z.natAbs), .int .u64 0, .string ⟨#[]⟩]) (by simp [results, Tryz.results35, go_sem, aS, aT, aU, aV, aW]) rfl ?_
 exact ⟨rfl, Yt p8 (by omega) _ _ _ _ _⟩
