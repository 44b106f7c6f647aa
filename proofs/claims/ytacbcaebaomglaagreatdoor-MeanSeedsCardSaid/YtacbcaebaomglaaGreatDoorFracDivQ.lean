import Derived.Test.YtacbcaebaomglaaGreatDoorFracMul
import Derived.Test.YtacbcaebaomglaaGreatDoorFracCmp
namespace Go.Proofs.YtacbcaebaomglaaGreatDoor
set_option maxRecDepth 100000
set_option maxHeartbeats 2000000
open Go.RowKit
set_option linter.all false
theorem Jk0 {b : Rat} (h : b ≠ 0) : signed (decide (b.num.sign < 0)) b.den = b⁻¹.num /\ b.num.natAbs = b⁻¹.den := by
 have hn : b.num ≠ 0 := fun e => h (Rat.num_eq_zero.1 e)
 rw [Rat.num_inv, Rat.den_inv, if_neg hn]
 refine ⟨?_, rfl⟩
 rcases Int.lt_or_gt_of_ne hn with h1 | h1
 ·rw [Int.sign_eq_neg_one_of_neg h1]
  simp [signed]
 rw [Int.sign_eq_one_of_pos h1]
 simp [signed]
theorem Jml (a b : Rat) (w : World) (ha : QS 549755813888 a) (hb : QS 549755813888 b) (aA : b ≠ 0) (hT : Tab w) :
  Calls Tryz.prog 108 #[qV a, qV b] w (Ret (.tuple #[qV (a / b), .bool true]) w) := by
 have aB := fun w => Jco b w (hb.mono (by omega))
 have x8 := fun w => Kg b w (hb.mono (by omega))
 have t8 := fun w => Qc (decide (b.num.sign < 0)) b.den w (nt hb.2 (by omega))
 have u4 := fun w => Ur b.num w
 obtain ⟨e1, e2⟩ := Jk0 aA
 rw [e1] at t8
 rw [e2] at u4
 have hi := hb.inv (by omega)
 have x7 := fun w => Ja1 b⁻¹ w (hi.mono (by omega))
 have x9 := fun w (hT : Tab w) => Jid a b⁻¹ w ha hi hT
 rw [<- Rat.div_def] at x9
 have aH : ¬ b.num.sign = 0 := fun e => aA (Rat.num_eq_zero.1 (Int.sign_eq_zero_iff_zero.1 e))
 clear e1 e2 hi ha hb aA
 generalize b⁻¹ = p at *
 generalize a / b = q at *
 generalize b.num.sign = sg at *
 generalize hng : decide (sg < 0) = ng at *
 have bC : (sg == 0) = false := by simp [aH]
 have bD : (sg != 0) = true := by simp [aH]
 unfold qV at aB x8 x7 x9 ⊢
 unfold Jx at t8 u4 x7
 unfold Jh at x8 t8 u4 x7
 have HSG := lh aB
 have HDN := lh x8
 have HFR := lh t8
 have HAB := lh u4
 have HPK := lh x7
 have HMU := lh x9
 clear aB x8 t8 u4 x7 x9
 generalize decide (b.num < 0) = nb at *
 generalize b.num.natAbs = bn at *
 generalize qden b = bd at *
 generalize decide (a.num < 0) = na at *
 generalize a.num.natAbs = an at *
 generalize qden a = ad at *
 generalize b.den = bdd at *
 generalize hpn : decide (p.num < 0) = np at *
 clear hpn
 generalize p.num.natAbs = pn at *
 generalize p.den = pd at *
 obtain ⟨b0, b1, b2, hB, hZ⟩ := bx3 w 65 #[.bool na, .int .u64 (lo an : Int), .string (mo an), .int .u64 (lo ad : Int), .string (mo ad)] 65 #[.bool nb, .int .u64 (lo bn : Int), .string (mo bn), .int .u64 (lo bd : Int), .string (mo bd)] 65 #[.bool false, .int .u64 0, .string ⟨#[]⟩, .int .u64 0, .string ⟨#[]⟩]
 have ne1 := neA w.heap.size
 have ne2 := neC w.heap.size
 have ne3 := neB w.heap.size
 have ne4 := neD w.heap.size
 go_enter Tryz.func108, Tryz.ntmps108
 go_wp2_with fail
 generalize ((w.alloc (.cells #[.bool na, .int .u64 (lo an : Int), .string (mo an), .int .u64 (lo ad : Int), .string (mo ad)] 65)).alloc (.cells #[.bool nb, .int .u64 (lo bn : Int), .string (mo bn), .int .u64 (lo bd : Int), .string (mo bd)] 65)).alloc (.cells #[.bool false, .int .u64 0, .string ⟨#[]⟩, .int .u64 0, .string ⟨#[]⟩] 65) = W at *
 refine (HSG.out W).mono ?_
 rintro e w1 ⟨rfl, y8⟩
 have hB := Ja hB y8
 have b0 := b0.below y8 b0.lt
 have b1 := b1.below y8 b1.lt
 have b2 := b2.below y8 b2.lt
 have tT := hT.next hB
 go_upto_region 2 with fail
 obtain ⟨aI, aJ, aK, aL, aM⟩ := b0.c5; have bE := b0.lt; have c0 := b0.drew; have o8 := c0.lt; obtain ⟨aN, aO, aP, aQ, aR⟩ := b1.c5; have bF := b1.lt; have c1 := b1.drew; have o9 := c1.lt; have c2 := b2.drew; have p7 := c2.lt; have hc := Ji w1; have tT : Tab w1.drew := tT; go_region_held3 (fun w' => w'.cell? ⟨w.heap.size, 0, none⟩ = some (.bool na) /\ w'.cell? ⟨w.heap.size, 1, none⟩ = some (.int .u64 (lo an : Int)) /\ w'.cell? ⟨w.heap.size, 2, none⟩ = some (.string (mo an)) /\ w'.cell? ⟨w.heap.size, 3, none⟩ = some (.int .u64 (lo ad : Int)) /\ w'.cell? ⟨w.heap.size, 4, none⟩ = some (.string (mo ad)) /\ w'.cell? ⟨w.heap.size + 1, 0, none⟩ = some (.bool nb) /\ w'.cell? ⟨w.heap.size + 1, 1, none⟩ = some (.int .u64 (lo bn : Int)) /\ w'.cell? ⟨w.heap.size + 1, 2, none⟩ = some (.string (mo bn)) /\ w'.cell? ⟨w.heap.size + 1, 3, none⟩ = some (.int .u64 (lo bd : Int)) /\ w'.cell? ⟨w.heap.size + 1, 4, none⟩ = some (.string (mo bd))) (go_keep) (first | (go_at_call 52; refine (HSG.out _).mono ?_; rintro e w1 ⟨rfl, p8⟩; (try clear e8 e9 j0 j6 j7); obtain ⟨c0, e8, e9, j0, j6, j7⟩ := c0.zc5 p8; (try clear o8); have o8 := c0.lt; (try clear j8 j9 o0 o6 o7); obtain ⟨c1, j8, j9, o0, o6, o7⟩ := c1.zc5 p8; (try clear o9); have o9 := c1.lt; have c2 := c2.yy p8; (try clear p7); have p7 := c2.lt; (first | have tT := tT.next p8 | have tT := (tT.next (Jb _ _)).next p8 | have tT := (tT.next (Jj _ _ _)).next p8); have hc := Ja hc p8) | (go_at_call 75; refine (HDN.out _).mono ?_; rintro e w2 ⟨rfl, p9⟩; (try clear e8 e9 j0 j6 j7); obtain ⟨c0, e8, e9, j0, j6, j7⟩ := c0.zc5 p9; (try clear o8); have o8 := c0.lt; (try clear j8 j9 o0 o6 o7); obtain ⟨c1, j8, j9, o0, o6, o7⟩ := c1.zc5 p9; (try clear o9); have o9 := c1.lt; have c2 := c2.yy p9; (try clear p7); have p7 := c2.lt; (first | have tT := tT.next p9 | have tT := (tT.next (Jb _ _)).next p9 | have tT := (tT.next (Jj _ _ _)).next p9); have hc := Ja hc p9) | (go_at_call 67; refine (HFR.out _).mono ?_; rintro e w3 ⟨rfl, q8⟩; (try clear e8 e9 j0 j6 j7); obtain ⟨c0, e8, e9, j0, j6, j7⟩ := c0.zc5 q8; (try clear o8); have o8 := c0.lt; (try clear j8 j9 o0 o6 o7); obtain ⟨c1, j8, j9, o0, o6, o7⟩ := c1.zc5 q8; (try clear o9); have o9 := c1.lt; have c2 := c2.yy q8; (try clear p7); have p7 := c2.lt; (first | have tT := tT.next q8 | have tT := (tT.next (Jb _ _)).next q8 | have tT := (tT.next (Jj _ _ _)).next q8); have hc := Ja hc q8) | (go_at_call 114; refine (HAB.out _).mono ?_; rintro e w4 ⟨rfl, s9⟩; (try clear e8 e9 j0 j6 j7); obtain ⟨c0, e8, e9, j0, j6, j7⟩ := c0.zc5 s9; (try clear o8); have o8 := c0.lt; (try clear j8 j9 o0 o6 o7); obtain ⟨c1, j8, j9, o0, o6, o7⟩ := c1.zc5 s9; (try clear o9); have o9 := c1.lt; have c2 := c2.yy s9; (try clear p7); have p7 := c2.lt; (first | have tT := tT.next s9 | have tT := (tT.next (Jb _ _)).next s9 | have tT := (tT.next (Jj _ _ _)).next s9); have hc := Ja hc s9) | (go_at_call 76; refine (HPK.out _).mono ?_; rintro e w5 ⟨rfl, t7⟩; (try clear e8 e9 j0 j6 j7); obtain ⟨c0, e8, e9, j0, j6, j7⟩ := c0.zc5 t7; (try clear o8); have o8 := c0.lt; (try clear j8 j9 o0 o6 o7); obtain ⟨c1, j8, j9, o0, o6, o7⟩ := c1.zc5 t7; (try clear o9); have o9 := c1.lt; have c2 := c2.yy t7; (try clear p7); have p7 := c2.lt; (first | have tT := tT.next t7 | have tT := (tT.next (Jb _ _)).next t7 | have tT := (tT.next (Jj _ _ _)).next t7); have hc := Ja hc t7) | (go_at_call 31; (first | refine (HMU.out _ tT).mono ?_ | refine (HMU.out _ (tT.next (Jb _ _))).mono ?_ | refine (HMU.out _ (tT.next (Jj _ _ _))).mono ?_); rintro e w6 ⟨rfl, y9⟩; (try clear e8 e9 j0 j6 j7); obtain ⟨c0, e8, e9, j0, j6, j7⟩ := c0.zc5 y9; (try clear o8); have o8 := c0.lt; (try clear j8 j9 o0 o6 o7); obtain ⟨c1, j8, j9, o0, o6, o7⟩ := c1.zc5 y9; (try clear o9); have o9 := c1.lt; have c2 := c2.yy y9; (try clear p7); have p7 := c2.lt; have hc := Ja hc y9; obtain ⟨aS, aT, aU, aV, aW, aX, aY, aZ, bA, bB, aC, aD, aE, aF, aG⟩ := c2.f5))
 all_goals
  go_wp2
  refine bodyPost_ret (v := .tuple #[.agg #[.bool (decide (q.num < 0)), .int .u64 (lo q.num.natAbs : Int), .string (mo q.num.natAbs), .int .u64 (lo ((qden q)) : Int), .string (mo ((qden q)))], .bool true]) (by simp [results, Tryz.results108, go_sem, aC, aD, aE, aF, aG]) rfl ?_
  exact ⟨rfl, Yt (Ja hB hc) (by omega) _ _ _ _ _⟩
theorem Js4 (a b : Rat) : Vq b a < 0 ↔ b < a := by
 unfold Vq
 by_cases h : b < a
 ·simp [h]
 simp only [h, if_false, iff_false]
 split <;> omega
theorem Jsr (a b : Rat) (w : World) (ha : QS 549755813888 a) (hb : QS 549755813888 b) : Calls Tryz.prog 103 #[qV a, qV b] w (Ret (qV (if b < a then b else a)) w) := by
 have bK := fun w => Jie b a w hb ha
 have bL := Js4 a b
 generalize Vq b a = cv at *
 obtain ⟨r, hr⟩ : ∃ r, (if b < a then b else a) = r := ⟨_, rfl⟩
 have bM : cv < 0 -> r = b := fun h => by rw [<- hr, if_pos (bL.1 h)]
 have bN : ¬ cv < 0 -> r = a := fun h => by rw [<- hr, if_neg (fun e => h (bL.2 e))]
 rw [hr]
 clear hr bL ha hb
 unfold qV at bK ⊢
 have HCM := lh bK
 clear bK
 obtain ⟨b0, b1, b2, hB, hZ⟩ := bx3 w 65 #[.bool (decide (a.num < 0)), .int .u64 (lo a.num.natAbs : Int), .string (mo a.num.natAbs), .int .u64 (lo ((qden a)) : Int), .string (mo ((qden a)))] 65 #[.bool (decide (b.num < 0)), .int .u64 (lo b.num.natAbs : Int), .string (mo b.num.natAbs), .int .u64 (lo ((qden b)) : Int), .string (mo ((qden b)))] 65 #[.bool false, .int .u64 0, .string ⟨#[]⟩, .int .u64 0, .string ⟨#[]⟩]
 go_enter Tryz.func103, Tryz.ntmps103
 go_wp2_with fail
 generalize (((w.alloc (.cells #[.bool (decide (a.num < 0)), .int .u64 (lo a.num.natAbs : Int), .string (mo a.num.natAbs), .int .u64 (lo ((qden a)) : Int), .string (mo ((qden a)))] 65)).alloc (.cells #[.bool (decide (b.num < 0)), .int .u64 (lo b.num.natAbs : Int), .string (mo b.num.natAbs), .int .u64 (lo ((qden b)) : Int), .string (mo ((qden b)))] 65)).alloc (.cells #[.bool false, .int .u64 0, .string ⟨#[]⟩, .int .u64 0, .string ⟨#[]⟩] 65)) = W at *
 refine (HCM.out W).mono ?_
 rintro e w1 ⟨rfl, y8⟩
 have hB := Ja hB y8
 have b0 := b0.below y8 b0.lt
 have b1 := b1.below y8 b1.lt
 have b2 := b2.below y8 b2.lt
 have ne1 := neA w.heap.size
 have ne2 := neC w.heap.size
 obtain ⟨aI, aJ, aK, aL, aM⟩ := b0.c5
 obtain ⟨aN, aO, aP, aQ, aR⟩ := b1.c5
 obtain ⟨bO, bP, bQ, bR, bS, bT, bU, bV, bW, bX, q9, bG, bH, bI, bJ⟩ := b2.f5
 by_cases h : cv < 0
 ·obtain rfl := bM h
  have q1 : decide (cv < 0) = true := decide_eq_true h
  clear bM bN
  go_wp2
  refine bodyPost_ret (v := .agg #[.bool (decide (r.num < 0)), .int .u64 (lo r.num.natAbs : Int), .string (mo r.num.natAbs), .int .u64 (lo ((qden r)) : Int), .string (mo ((qden r)))]) (by simp [results, Tryz.results103, go_sem, q9, bG, bH, bI, bJ]) rfl ?_
  exact ⟨rfl, Yt hB (by omega) _ _ _ _ _⟩
 obtain rfl := bN (by omega)
 have q1 : decide (cv < 0) = false := decide_eq_false h
 clear bM bN
 go_wp2
 refine bodyPost_ret (v := .agg #[.bool (decide (r.num < 0)), .int .u64 (lo r.num.natAbs : Int), .string (mo r.num.natAbs), .int .u64 (lo ((qden r)) : Int), .string (mo ((qden r)))]) (by simp [results, Tryz.results103, go_sem, q9, bG, bH, bI, bJ]) rfl ?_
 exact ⟨rfl, Yt hB (by omega) _ _ _ _ _⟩
