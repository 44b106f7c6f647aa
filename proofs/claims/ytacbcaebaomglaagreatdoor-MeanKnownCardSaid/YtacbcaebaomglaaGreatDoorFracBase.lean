import Derived.Test.YtacbcaebaomglaaGreatDoorWholeM
import Derived.Test.YtacbcaebaomglaaGreatDoorNatDiv
namespace Go.Proofs.YtacbcaebaomglaaGreatDoor
set_option maxRecDepth 100000
set_option maxHeartbeats 400000
open Go.RowKit
set_option linter.all false
theorem Qi (q : Rat) (w : World) (hq : QS 1099511627776 q) : Calls Tryz.prog 72 #[qV q] w (Ret (.bool (decide (q.den = 1))) w) := by
 have hb := hq.qden
 have hz := Zc q
 have hp := Qq (qden q)
 have e : ((Je (qden q) : Int) == 0) = decide (q.den = 1) := by
  rw [Bool.eq_iff_iff]
  simp
  omega
 have e2 : (Je (qden q) == 0) = decide (q.den = 1) := by
  rw [Bool.eq_iff_iff]
  simp
  omega
 have HE := lh (And.intro e e2)
 obtain ⟨r, hr⟩ : ∃ r, decide (q.den = 1) = r := ⟨_, rfl⟩
 rw [hr] at HE e e2
 rw [hr]
 clear hr hz hp
 unfold qV
 obtain ⟨b0, hB, hZ⟩ := bx1 w 65 #[.bool (decide (q.num < 0)), .int .u64 (lo q.num.natAbs : Int), .string (mo q.num.natAbs), .int .u64 (lo ((qden q)) : Int), .string (mo ((qden q)))]
 go_enter Tryz.func72, Tryz.ntmps72
 go_wp2_with fail
 generalize (w.alloc (.cells #[.bool (decide (q.num < 0)), .int .u64 (lo q.num.natAbs : Int), .string (mo q.num.natAbs), .int .u64 (lo ((qden q)) : Int), .string (mo ((qden q)))] 65)) = W at *
 refine (Qk (qden q) W (by omega)).mono ?_
 rintro e1 w1 ⟨rfl, e8⟩
 go_wp2
 go_ret
 exact ⟨rfl, Ja hB e8⟩
theorem Zw (q : Rat) (w : World) (hq : QS 1099511627776 q) : Calls Tryz.prog 75 #[qV q] w (Ret (Jh q.den) w) := by
 have hw := fun w => Qi q w hq
 by_cases h : q.den = 1
 ·have e : decide (q.den = 1) = true := decide_eq_true h
  rw [e] at hw
  rw [h]
  have aL := fun w => Jd3 1 w (by omega)
  have HW := lh hw
  have HOF := lh aL
  clear hw aL e h
  unfold Jh at HOF ⊢
  unfold qV at HW ⊢
  obtain ⟨b0, b1, hB, hZ⟩ := bx2 w 65 #[.bool (decide (q.num < 0)), .int .u64 (lo q.num.natAbs : Int), .string (mo q.num.natAbs), .int .u64 (lo ((qden q)) : Int), .string (mo ((qden q)))] 61 #[.int .u64 0, .string ⟨#[]⟩]
  go_enter Tryz.func75, Tryz.ntmps75
  go_wp2_with fail
  generalize ((w.alloc (.cells #[.bool (decide (q.num < 0)), .int .u64 (lo q.num.natAbs : Int), .string (mo q.num.natAbs), .int .u64 (lo ((qden q)) : Int), .string (mo ((qden q)))] 65)).alloc (.cells #[.int .u64 0, .string ⟨#[]⟩] 61)) = W at *
  refine (HW.out W).mono ?_
  rintro e1 w1 ⟨rfl, e8⟩
  have o9 := Ja hB e8
  have b1 := b1.below e8 b1.lt
  go_wp2_with fail
  refine (HOF.out w1).mono ?_
  rintro e1 w2 ⟨rfl, aM⟩
  have aW := Ja o9 aM
  (try clear j6 j7 y9 aA s9 t7); obtain ⟨b1, j6, j7, y9, aA, s9, t7⟩ := b1.zf2 aM
  go_wp2
  refine bodyPost_ret (v := .agg #[.int .u64 (lo 1 : Int), .string (mo 1)]) (by simp [results, Tryz.results75, go_sem, s9, t7]) rfl ?_
  exact ⟨rfl, Xg aW (by omega) _ _⟩
 have e : decide (q.den = 1) = false := decide_eq_false h
 have e2 : qden q = q.den := by unfold qden; rw [if_neg h]
 rw [e] at hw
 have HW := lh hw
 clear hw e h
 unfold Jh
 unfold qV at HW ⊢
 obtain ⟨b0, b1, hB, hZ⟩ := bx2 w 65 #[.bool (decide (q.num < 0)), .int .u64 (lo q.num.natAbs : Int), .string (mo q.num.natAbs), .int .u64 (lo ((qden q)) : Int), .string (mo ((qden q)))] 61 #[.int .u64 0, .string ⟨#[]⟩]
 rw [e2] at HW b0 b1 hB hZ
 rw [e2]
 clear e2
 go_enter Tryz.func75, Tryz.ntmps75
 go_wp2_with fail
 generalize (w.alloc (.cells #[.bool (decide (q.num < 0)), .int .u64 (lo q.num.natAbs : Int), .string (mo q.num.natAbs), .int .u64 (lo q.den : Int), .string (mo q.den)] 65)).alloc (.cells #[.int .u64 0, .string ⟨#[]⟩] 61) = W at *
 refine (HW.out W).mono ?_
 rintro e1 w1 ⟨rfl, e8⟩
 have o9 := Ja hB e8
 (try clear e9 j0 o6 x7 x8); obtain ⟨b0, e9, j0, o6, x7, x8⟩ := b0.zc5 e8
 (try clear j6 j7 y9 aA s9 t7); obtain ⟨b1, j6, j7, y9, aA, s9, t7⟩ := b1.zf2 e8
 have n1 := neE w.heap.size
 go_wp2
 refine bodyPost_ret (v := .agg #[.int .u64 (lo q.den : Int), .string (mo q.den)]) (by simp [results, Tryz.results75, go_sem, s9, t7]) rfl ?_
 exact ⟨rfl, Xg o9 (by omega) _ _⟩
theorem Jjo (q : Rat) (w : World) : Calls Tryz.prog 133 #[qV q] w (Ret (Js q.num) w) := by
 unfold qV Js
 go_enter Tryz.func133, Tryz.ntmps133
 go_wp2
 go_returns
 exact ⟨rfl, by go_grown⟩
theorem Jay (q : Rat) (w : World) (hq : QS 1099511627776 q) : Calls Tryz.prog 52 #[qV q] w (Ret (.int .i64 q.num.sign) w) := by
 have hs := lh (fun w => Zl q.num w (by have := hq.1; omega))
 unfold qV
 unfold Js at hs
 obtain ⟨b0, hB, hZ⟩ := bx1 w 65 #[.bool (decide (q.num < 0)), .int .u64 (lo q.num.natAbs : Int), .string (mo q.num.natAbs), .int .u64 (lo ((qden q)) : Int), .string (mo ((qden q)))]
 go_enter Tryz.func52, Tryz.ntmps52
 go_wp2_with fail
 generalize (w.alloc (.cells #[.bool (decide (q.num < 0)), .int .u64 (lo q.num.natAbs : Int), .string (mo q.num.natAbs), .int .u64 (lo ((qden q)) : Int), .string (mo ((qden q)))] 65)) = W at *
 refine (hs.out W).mono ?_
 rintro e1 w1 ⟨rfl, e8⟩
 go_wp2
 go_ret
 exact ⟨rfl, Ja hB e8⟩
theorem Jjp (q : Rat) (w : World) (hq : QS 1099511627776 q) : Calls Tryz.prog 172 #[qV q] w (Ret (qV (-q)) w) := by
 have hs := lh (fun w => Jcy q.num w hq.1)
 have e : qden (-q) = qden q := rfl
 unfold qV
 rw [e, Rat.neg_num, Int.natAbs_neg]
 unfold Js at hs
 rw [Int.natAbs_neg] at hs
 clear e
 obtain ⟨ng, bS⟩ : ∃ ng, decide (-q.num < 0) = ng := ⟨_, rfl⟩
 rw [bS] at hs ⊢
 clear bS
 have HS := hs
 generalize decide (q.num < 0) = nq at *
 obtain ⟨b0, b1, hB, hZ⟩ := bx2 w 65 #[.bool nq, .int .u64 (lo q.num.natAbs : Int), .string (mo q.num.natAbs), .int .u64 (lo (qden q) : Int), .string (mo (qden q))] 65 #[.bool false, .int .u64 0, .string ⟨#[]⟩, .int .u64 0, .string ⟨#[]⟩]
 go_enter Tryz.func172, Tryz.ntmps172
 go_wp2_with fail
 generalize ((w.alloc (.cells #[.bool nq, .int .u64 (lo q.num.natAbs : Int), .string (mo q.num.natAbs), .int .u64 (lo (qden q) : Int), .string (mo (qden q))] 65)).alloc (.cells #[.bool false, .int .u64 0, .string ⟨#[]⟩, .int .u64 0, .string ⟨#[]⟩] 65)) = W at *
 obtain ⟨e9, j0, o6, x7, x8⟩ := b0.c5; have c0 := b0.drew; have c1 := b1.drew; have ne0 : ¬ w.heap.size = w.heap.size + 1 := (by omega); have ne0x : ¬ w.heap.size + 1 = w.heap.size := (by omega); go_region_held3 (fun w' => w'.cell? ⟨w.heap.size, 0, none⟩ = some (.bool nq) /\ w'.cell? ⟨w.heap.size, 1, none⟩ = some (.int .u64 (lo q.num.natAbs : Int)) /\ w'.cell? ⟨w.heap.size, 2, none⟩ = some (.string (mo q.num.natAbs)) /\ w'.cell? ⟨w.heap.size, 3, none⟩ = some (.int .u64 (lo (qden q) : Int)) /\ w'.cell? ⟨w.heap.size, 4, none⟩ = some (.string (mo (qden q)))) (go_keep) (first | (go_at_call 112; refine (HS.out _).mono ?_; rintro e w1 ⟨rfl, p0⟩; (try clear j8 j9 l5 aX aY); obtain ⟨c0, j8, j9, l5, aX, aY⟩ := c0.zc5 p0; obtain ⟨c1, l7, o0, bT, bU, bV, bW, bX, bY, bZ, cA, aZ, bA, bB, bC, bD⟩ := c1.zf5 p0))
 all_goals
  go_wp2
  refine bodyPost_ret (v := .agg #[.bool ng, .int .u64 (lo q.num.natAbs : Int), .string (mo q.num.natAbs), .int .u64 (lo (qden q) : Int), .string (mo (qden q))]) (by simp [results, Tryz.results172, go_sem, aZ, bA, bB, bC, bD]) rfl ?_
  exact ⟨rfl, Zf (Ja hB (Vn p0)) (by omega) _ _ _ _ _⟩
theorem Vg (q : Rat) (w : World) (hq : QS 1099511627776 q) : Calls Tryz.prog 76 #[Js q.num, Jh q.den] w (Ret (qV q) w) := by
 have x9 := lh (fun w => Qk q.den w (by have := hq.2; omega))
 have h1 := Jfu q.den
 have cD := hq.2
 unfold qV
 unfold Js
 unfold Jh at x9 ⊢
 obtain ⟨b0, b1, b2, hB, hZ⟩ := bx3 w 63 #[.bool (decide (q.num < 0)), .int .u64 (lo q.num.natAbs : Int), .string (mo q.num.natAbs)] 61 #[.int .u64 (lo q.den : Int), .string (mo q.den)] 65 #[.bool false, .int .u64 0, .string ⟨#[]⟩, .int .u64 0, .string ⟨#[]⟩]
 by_cases h : q.den = 1
 ·have e : qden q = 0 := (Zc q).2 h
  rw [e, Ju 0 (by omega), Jo 0 (by omega)]
  have e1 : ((Je q.den : Int) == 1) = true := by simp; omega
  have e2 : (Je q.den == 1) = true := by simp; omega
  clear e h h1
  go_enter Tryz.func76, Tryz.ntmps76
  go_wp2_with fail
  generalize (((w.alloc (.cells #[.bool (decide (q.num < 0)), .int .u64 (lo q.num.natAbs : Int), .string (mo q.num.natAbs)] 63)).alloc (.cells #[.int .u64 (lo q.den : Int), .string (mo q.den)] 61)).alloc (.cells #[.bool false, .int .u64 0, .string ⟨#[]⟩, .int .u64 0, .string ⟨#[]⟩] 65)) = W at *
  refine (x9.out W).mono ?_
  rintro e1 w1 ⟨rfl, e8⟩
  have o9 := Ja hB e8
  (try clear e9 j0 o6); obtain ⟨b0, e9, j0, o6⟩ := b0.zc3 e8; (try clear j6 j7); obtain ⟨b1, j6, j7⟩ := b1.zc2 e8
  (try clear p7 p8 aB aC aD p9 q8 aE aF aG o7 o8 t8 u4 u5); obtain ⟨b2, p7, p8, aB, aC, aD, p9, q8, aE, aF, aG, o7, o8, t8, u4, u5⟩ := b2.zf5 e8
  go_wp2
  refine bodyPost_ret (v := .agg #[.bool (decide (q.num < 0)), .int .u64 (lo q.num.natAbs : Int), .string (mo q.num.natAbs), .int .u64 ((0 : Nat) : Int), .string ⟨#[]⟩]) (by simp [results, Tryz.results76, go_sem, o7, o8, t8, u4, u5]) rfl ?_
  exact ⟨rfl, Zf o9 (by omega) _ _ _ _ _⟩
 have e : qden q = q.den := by unfold qden; rw [if_neg h]
 rw [e]
 have e1 : ((Je q.den : Int) == 1) = false := by simp; omega
 have e2 : (Je q.den == 1) = false := by simp; omega
 clear e h h1
 go_enter Tryz.func76, Tryz.ntmps76
 go_wp2_with fail
 generalize (((w.alloc (.cells #[.bool (decide (q.num < 0)), .int .u64 (lo q.num.natAbs : Int), .string (mo q.num.natAbs)] 63)).alloc (.cells #[.int .u64 (lo q.den : Int), .string (mo q.den)] 61)).alloc (.cells #[.bool false, .int .u64 0, .string ⟨#[]⟩, .int .u64 0, .string ⟨#[]⟩] 65)) = W at *
 refine (x9.out W).mono ?_
 rintro e1 w1 ⟨rfl, e8⟩
 have o9 := Ja hB e8
 (try clear e9 j0 o6); obtain ⟨b0, e9, j0, o6⟩ := b0.zc3 e8; (try clear j6 j7); obtain ⟨b1, j6, j7⟩ := b1.zc2 e8
 (try clear p7 p8 aB aC aD p9 q8 aE aF aG o7 o8 t8 u4 u5); obtain ⟨b2, p7, p8, aB, aC, aD, p9, q8, aE, aF, aG, o7, o8, t8, u4, u5⟩ := b2.zf5 e8
 go_wp2
 refine bodyPost_ret (v := .agg #[.bool (decide (q.num < 0)), .int .u64 (lo q.num.natAbs : Int), .string (mo q.num.natAbs), .int .u64 (lo q.den : Int), .string (mo q.den)]) (by simp [results, Tryz.results76, go_sem, o7, o8, t8, u4, u5]) rfl ?_
 exact ⟨rfl, Zf o9 (by omega) _ _ _ _ _⟩
theorem Zo (a b : Nat) (w : World) (ha : Je a <= 1099511627776) (hb : Je b <= 1099511627776) (bE : b ≠ 0) : Calls Tryz.prog 78 #[Jh a, Jh b] w (Ret (Jh (a / b)) w) := by
 have x9 := lh (fun w => Qk b w (by omega))
 have aH := lh (fun w => Jbc a b w bE ha hb)
 have h1 := Jfu b
 by_cases h : b = 1
 ·rw [h, Nat.div_one]
  rw [h] at x9 aH h1
  have e1 : ((Je 1 : Int) == 1) = true := rfl
  have e2 : (Je 1 == 1) = true := rfl
  clear h1
  generalize 1 = b at *
  unfold Jh at x9 aH ⊢
  obtain ⟨b0, b1, b2, hB, hZ⟩ := bx3 w 61 #[.int .u64 (lo a : Int), .string (mo a)] 61 #[.int .u64 (lo b : Int), .string (mo b)] 61 #[.int .u64 0, .string ⟨#[]⟩]
  go_enter Tryz.func78, Tryz.ntmps78
  go_wp2_with fail
  generalize (((w.alloc (.cells #[.int .u64 (lo a : Int), .string (mo a)] 61)).alloc (.cells #[.int .u64 (lo b : Int), .string (mo b)] 61)).alloc (.cells #[.int .u64 0, .string ⟨#[]⟩] 61)) = W at *
  refine (x9.out W).mono ?_
  rintro e1 w1 ⟨rfl, e8⟩
  have o9 := Ja hB e8
  (try clear e9 j0); obtain ⟨b0, e9, j0⟩ := b0.zc2 e8; (try clear j6 j7); obtain ⟨b1, j6, j7⟩ := b1.zc2 e8
  (try clear p7 p8 p9 q8 o7 o8); obtain ⟨b2, p7, p8, p9, q8, o7, o8⟩ := b2.zf2 e8
  go_wp2
  refine bodyPost_ret (v := .agg #[.int .u64 (lo a : Int), .string (mo a)]) (by simp [results, Tryz.results78, go_sem, o7, o8]) rfl ?_
  exact ⟨rfl, Xg o9 (by omega) _ _⟩
 have e1 : ((Je b : Int) == 1) = false := by simp; omega
 have e2 : (Je b == 1) = false := by simp; omega
 clear h1 h
 unfold Jh at x9 aH ⊢
 generalize a / b = Q at *
 generalize a % b = R at *
 obtain ⟨b0, b1, b2, hB, hZ⟩ := bx3 w 61 #[.int .u64 (lo a : Int), .string (mo a)] 61 #[.int .u64 (lo b : Int), .string (mo b)] 61 #[.int .u64 0, .string ⟨#[]⟩]
 go_enter Tryz.func78, Tryz.ntmps78
 go_wp2_with fail
 generalize (((w.alloc (.cells #[.int .u64 (lo a : Int), .string (mo a)] 61)).alloc (.cells #[.int .u64 (lo b : Int), .string (mo b)] 61)).alloc (.cells #[.int .u64 0, .string ⟨#[]⟩] 61)) = W at *
 refine (x9.out W).mono ?_
 rintro e1 w1 ⟨rfl, e8⟩
 have o9 := Ja hB e8
 (try clear e9 j0); obtain ⟨b0, e9, j0⟩ := b0.zc2 e8; (try clear j6 j7); obtain ⟨b1, j6, j7⟩ := b1.zc2 e8
 have b2 := b2.below e8 b2.lt
 go_wp2_with fail
 refine (aH.out w1).mono ?_
 rintro e1 w2 ⟨rfl, aM⟩
 have aW := Ja (Ja o9 aM) (Ji w2 (.cells #[.int .u64 (lo Q : Int), .string (mo Q)] 61) (.cells #[.int .u64 (lo R : Int), .string (mo R)] 61))
 have bq := (Blk.new w2 61 #[.int .u64 (lo Q : Int), .string (mo Q)]).alloc (.cells #[.int .u64 (lo R : Int), .string (mo R)] 61)
 have b2 := ((b2.below aM b2.lt).alloc (.cells #[.int .u64 (lo Q : Int), .string (mo Q)] 61)).alloc (.cells #[.int .u64 (lo R : Int), .string (mo R)] 61)
 obtain ⟨cB, cC⟩ := bq.c2
 obtain ⟨p7, p8, p9, q8, o7, o8⟩ := b2.f2
 go_wp2
 refine bodyPost_ret (v := .agg #[.int .u64 (lo Q : Int), .string (mo Q)]) (by simp [results, Tryz.results78, go_sem, o7, o8]) rfl ?_
 exact ⟨rfl, Xg aW (by omega) _ _⟩
theorem Kz (n : Int) (d : Nat) (w : World) (hn : Je n.natAbs <= 1099511627776) (hd : Je d <= 1099511627776) : Calls Tryz.prog 81 #[Js n, Jh d] w (Ret (Js (n * d)) w) := by
 have q9 := fun w => Qa false d w (by omega)
 have aS := fun w => Jaq n d w hn (by rw [Int.natAbs_natCast]; exact hd)
 have e : signed false d = (d : Int) := rfl
 rw [e] at q9
 clear e
 generalize n * (d : Int) = N at *
 unfold Jh at q9 ⊢
 unfold Js at q9 aS ⊢
 generalize decide (n < 0) = ng at *
 generalize decide (N < 0) = nG at *
 generalize decide ((d : Int) < 0) = nd at *
 rw [Int.natAbs_natCast] at q9 aS
 have HFR := lh q9
 have HMU := lh aS
 clear q9 aS
 obtain ⟨b0, b1, b2, hB, hZ⟩ := bx3 w 63 #[.bool ng, .int .u64 (lo n.natAbs : Int), .string (mo n.natAbs)] 61 #[.int .u64 (lo d : Int), .string (mo d)] 63 #[.bool false, .int .u64 0, .string ⟨#[]⟩]
 go_enter Tryz.func81, Tryz.ntmps81
 go_wp2_with fail
 generalize (((w.alloc (.cells #[.bool ng, .int .u64 (lo n.natAbs : Int), .string (mo n.natAbs)] 63)).alloc (.cells #[.int .u64 (lo d : Int), .string (mo d)] 61)).alloc (.cells #[.bool false, .int .u64 0, .string ⟨#[]⟩] 63)) = W at *
 obtain ⟨e9, j0, o6⟩ := b0.c3; obtain ⟨j6, j7⟩ := b1.c2; have c0 := b0.drew; have c1 := b1.drew; have c2 := b2.drew; have ne0 : ¬ w.heap.size = w.heap.size + 1 + 1 := (by omega); have ne0x : ¬ w.heap.size + 1 + 1 = w.heap.size := (by omega); have ne1 : ¬ w.heap.size + 1 = w.heap.size + 1 + 1 := (by omega); have ne1x : ¬ w.heap.size + 1 + 1 = w.heap.size + 1 := (by omega); go_region_held3 (fun w' => w'.cell? ⟨w.heap.size, 0, none⟩ = some (.bool ng) /\ w'.cell? ⟨w.heap.size, 1, none⟩ = some (.int .u64 (lo n.natAbs : Int)) /\ w'.cell? ⟨w.heap.size, 2, none⟩ = some (.string (mo n.natAbs)) /\ w'.cell? ⟨w.heap.size + 1, 0, none⟩ = some (.int .u64 (lo d : Int)) /\ w'.cell? ⟨w.heap.size + 1, 1, none⟩ = some (.string (mo d))) (go_keep) (first | (go_at_call 67; refine (HFR.out _).mono ?_; rintro e w1 ⟨rfl, p0⟩; (try clear j8 j9 l5); obtain ⟨c0, j8, j9, l5⟩ := c0.zc3 p0; (try clear l7 o0); obtain ⟨c1, l7, o0⟩ := c1.zc2 p0; have c2 := c2.below p0 c2.lt) | (go_at_call 73; refine (HMU.out _).mono ?_; rintro e w2 ⟨rfl, y8⟩; (try clear j8 j9 l5); obtain ⟨c0, j8, j9, l5⟩ := c0.zc3 y8; (try clear l7 o0); obtain ⟨c1, l7, o0⟩ := c1.zc2 y8; obtain ⟨c2, bF, bG, bH, bI, bJ, bK, aI, aJ, aK⟩ := c2.zf3 y8))
 all_goals
  go_wp2
  refine bodyPost_ret (v := .agg #[.bool nG, .int .u64 (lo N.natAbs : Int), .string (mo N.natAbs)]) (by simp [results, Tryz.results81, go_sem, aI, aJ, aK]) rfl ?_
  exact ⟨rfl, Yf (Ja (Ja hB (Vn p0)) y8) (by omega) _ _ _⟩
theorem Je8 (n : Int) (b : Nat) (h : b ∣ n.natAbs) : signed (decide (n.sign < 0)) (n.natAbs / b) = n / (b : Int) := by
 unfold signed
 obtain ⟨k, hk⟩ := h
 rcases Nat.eq_zero_or_pos b with h0 | h0
 ·subst h0
  simp
 rw [hk, Nat.mul_div_cancel_left _ h0]
 by_cases hn : n < 0
 ·rw [Int.sign_eq_neg_one_of_neg hn, if_pos (by decide)]
  have e : n = (b : Int) * (-(k : Int)) := by
   rw [Int.mul_neg, <- Int.natCast_mul, <- hk]
   omega
  rw [e, Int.mul_ediv_cancel_left _ (by omega)]
 have hs : ¬ n.sign < 0 := by
  rcases Int.lt_trichotomy n 0 with h | h | h
  ·omega
  ·rw [h]; decide
  rw [Int.sign_eq_one_of_pos h]; decide
 rw [if_neg (by simpa using hs)]
 have e : n = (b : Int) * (k : Int) := by
  rw [<- Int.natCast_mul, <- hk]
  omega
 rw [e, Int.mul_ediv_cancel_left _ (by omega)]
theorem Vf (n : Int) (b : Nat) (w : World) (hn : Je n.natAbs <= 1099511627776) (hb : Je b <= 1099511627776) (bE : b ≠ 0) (aH : b ∣ n.natAbs) : Calls Tryz.prog 77 #[Js n, Jh b] w (Ret (Js (n / (b : Int))) w) := by
 have bL := fun w => Zl n w (by omega)
 have aT := fun w => Kf n w
 have bM := fun w => Zo n.natAbs b w hn hb bE
 have q9 := fun w => Qa (decide (n.sign < 0)) (n.natAbs / b) w (by have := Xr n.natAbs b; omega)
 rw [Je8 n b aH] at q9
 generalize n.natAbs / b = q at *
 generalize n / (b : Int) = N at *
 generalize n.sign = sg at *
 clear aH
 unfold Jh at aT bM q9 ⊢
 unfold Js at bL aT q9 ⊢
 generalize decide (n < 0) = ng at *
 generalize decide (N < 0) = nG at *
 have HSG := lh bL
 have HAB := lh aT
 have HOV := lh bM
 have HFR := lh q9
 clear bL aT bM q9
 obtain ⟨b0, b1, b2, hB, hZ⟩ := bx3 w 63 #[.bool ng, .int .u64 (lo n.natAbs : Int), .string (mo n.natAbs)] 61 #[.int .u64 (lo b : Int), .string (mo b)] 63 #[.bool false, .int .u64 0, .string ⟨#[]⟩]
 go_enter Tryz.func77, Tryz.ntmps77
 go_wp2_with fail
 generalize (((w.alloc (.cells #[.bool ng, .int .u64 (lo n.natAbs : Int), .string (mo n.natAbs)] 63)).alloc (.cells #[.int .u64 (lo b : Int), .string (mo b)] 61)).alloc (.cells #[.bool false, .int .u64 0, .string ⟨#[]⟩] 63)) = W at *
 obtain ⟨e9, j0, o6⟩ := b0.c3; obtain ⟨j6, j7⟩ := b1.c2; have c0 := b0.drew; have c1 := b1.drew; have c2 := b2.drew; have ne0 : ¬ w.heap.size = w.heap.size + 1 + 1 := (by omega); have ne0x : ¬ w.heap.size + 1 + 1 = w.heap.size := (by omega); have ne1 : ¬ w.heap.size + 1 = w.heap.size + 1 + 1 := (by omega); have ne1x : ¬ w.heap.size + 1 + 1 = w.heap.size + 1 := (by omega); go_region_held3 (fun w' => w'.cell? ⟨w.heap.size, 0, none⟩ = some (.bool ng) /\ w'.cell? ⟨w.heap.size, 1, none⟩ = some (.int .u64 (lo n.natAbs : Int)) /\ w'.cell? ⟨w.heap.size, 2, none⟩ = some (.string (mo n.natAbs)) /\ w'.cell? ⟨w.heap.size + 1, 0, none⟩ = some (.int .u64 (lo b : Int)) /\ w'.cell? ⟨w.heap.size + 1, 1, none⟩ = some (.string (mo b))) (go_keep) (first | (go_at_call 98; refine (HSG.out _).mono ?_; rintro e w1 ⟨rfl, p0⟩; (try clear j8 j9 l5); obtain ⟨c0, j8, j9, l5⟩ := c0.zc3 p0; (try clear l7 o0); obtain ⟨c1, l7, o0⟩ := c1.zc2 p0; have c2 := c2.below p0 c2.lt) | (go_at_call 114; refine (HAB.out _).mono ?_; rintro e w2 ⟨rfl, y8⟩; (try clear j8 j9 l5); obtain ⟨c0, j8, j9, l5⟩ := c0.zc3 y8; (try clear l7 o0); obtain ⟨c1, l7, o0⟩ := c1.zc2 y8; have c2 := c2.below y8 c2.lt) | (go_at_call 78; refine (HOV.out _).mono ?_; rintro e w3 ⟨rfl, aU⟩; (try clear j8 j9 l5); obtain ⟨c0, j8, j9, l5⟩ := c0.zc3 aU; (try clear l7 o0); obtain ⟨c1, l7, o0⟩ := c1.zc2 aU; have c2 := c2.below aU c2.lt) | (go_at_call 67; refine (HFR.out _).mono ?_; rintro e w4 ⟨rfl, aV⟩; (try clear j8 j9 l5); obtain ⟨c0, j8, j9, l5⟩ := c0.zc3 aV; (try clear l7 o0); obtain ⟨c1, l7, o0⟩ := c1.zc2 aV; obtain ⟨c2, bF, bG, bH, bI, bJ, bK, aI, aJ, aK⟩ := c2.zf3 aV))
 all_goals
  go_wp2
  refine bodyPost_ret (v := .agg #[.bool nG, .int .u64 (lo N.natAbs : Int), .string (mo N.natAbs)]) (by simp [results, Tryz.results77, go_sem, aI, aJ, aK]) rfl ?_
  exact ⟨rfl, Yf (Ja (Ja (Ja (Ja hB (Vn p0)) y8) aU) aV) (by omega) _ _ _⟩
theorem Jg7 (z : Int) (w : World) (h0 : -9223372036854775808 <= z) (h1 : z <= 9223372036854775807) : Calls Tryz.prog 35 #[.int .i64 z] w (Ret (qV (z : Rat)) w) := by
 have aL := fun w => Jij z w h0 h1
 have e : qV (z : Rat) = .agg #[.bool (decide (z < 0)), .int .u64 (lo z.natAbs : Int), .string (mo z.natAbs), .int .u64 0, .string ⟨#[]⟩] := rfl
 rw [e]
 unfold Js at aL
 have HOF := lh aL
 clear aL e
 generalize decide (z < 0) = nz at *
 obtain ⟨b0, hB, hZ⟩ := bx1 w 65 #[.bool false, .int .u64 0, .string ⟨#[]⟩, .int .u64 0, .string ⟨#[]⟩]
 go_enter Tryz.func35, Tryz.ntmps35
 go_wp2_with fail
 generalize (w.alloc (.cells #[.bool false, .int .u64 0, .string ⟨#[]⟩, .int .u64 0, .string ⟨#[]⟩] 65)) = W at *
 refine (HOF.out W).mono ?_
 rintro e1 w1 ⟨rfl, e8⟩
 have o9 := Ja hB e8
 (try clear e9 j0 o6 x7 x8 bN bO bP bQ bR aN aO aP aQ aR); obtain ⟨b0, e9, j0, o6, x7, x8, bN, bO, bP, bQ, bR, aN, aO, aP, aQ, aR⟩ := b0.zf5 e8
 go_wp2
 refine bodyPost_ret (v := .agg #[.bool nz, .int .u64 (lo z.natAbs : Int), .string (mo z.natAbs), .int .u64 0, .string ⟨#[]⟩]) (by simp [results, Tryz.results35, go_sem, aN, aO, aP, aQ, aR]) rfl ?_
 exact ⟨rfl, Zf o9 (by omega) _ _ _ _ _⟩
