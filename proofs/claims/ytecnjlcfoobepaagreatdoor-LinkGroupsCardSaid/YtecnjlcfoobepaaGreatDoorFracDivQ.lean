import Derived.Test.YtecnjlcfoobepaaGreatDoorFracMul
import Derived.Test.YtecnjlcfoobepaaGreatDoorFracCmp
namespace Go.Proofs.YtecnjlcfoobepaaGreatDoor
set_option maxRecDepth 100000
set_option maxHeartbeats 2000000
open Go.RowKit
set_option linter.all false
theorem Jnq {b : Rat} (h : b ≠ 0) : signed (decide (b.num.sign < 0)) b.den = b⁻¹.num /\ b.num.natAbs = b⁻¹.den := by
 have hn : b.num ≠ 0 := fun e => h (Rat.num_eq_zero.1 e)
 rw [Rat.num_inv, Rat.den_inv, if_neg hn]
 refine ⟨?_, rfl⟩
 rcases Int.lt_or_gt_of_ne hn with h1 | h1
 ·rw [Int.sign_eq_neg_one_of_neg h1]
  simp [signed]
 rw [Int.sign_eq_one_of_pos h1]
 simp [signed]
theorem Jp6 (a b : Rat) (w : World) (ha : QS 549755813888 a) (hb : QS 549755813888 b) (bF : b ≠ 0) (hT : Tab w) :
  Calls Tryz.prog 87 #[qV a, qV b] w (Ret (.tuple #[qV (a / b), .bool true]) w) := by
 have bG := fun w => Ye b w (hb.mono (by omega))
 have bC := fun w => Kg b w (hb.mono (by omega))
 have aP := fun w => Qh (decide (b.num.sign < 0)) b.den w (nt hb.2 (by omega))
 have aQ := fun w => Uv b.num w
 obtain ⟨e1, e2⟩ := Jnq bF
 rw [e1] at aP
 rw [e2] at aQ
 have hi := hb.inv (by omega)
 have aR := fun w => Jbh b⁻¹ w (hi.mono (by omega))
 have bD := fun w (hT : Tab w) => Jck a b⁻¹ w ha hi hT
 rw [<- Rat.div_def] at bD
 have bW : ¬ b.num.sign = 0 := fun e => bF (Rat.num_eq_zero.1 (Int.sign_eq_zero_iff_zero.1 e))
 clear e1 e2 hi ha hb bF
 generalize b⁻¹ = p at *
 generalize a / b = q at *
 generalize b.num.sign = sg at *
 generalize hng : decide (sg < 0) = ng at *
 have cH : (sg == 0) = false := by simp [bW]
 have cI : (sg != 0) = true := by simp [bW]
 unfold qV at bG bC aR bD ⊢
 unfold Qa at aP aQ aR
 unfold Jj at bC aP aQ aR
 have HSG := lh bG
 have HDN := lh bC
 have HFR := lh aP
 have HAB := lh aQ
 have HPK := lh aR
 have HMU := lh bD
 clear bG bC aP aQ aR bD
 generalize decide (b.num < 0) = nb at *
 generalize b.num.natAbs = bn at *
 generalize qden b = bd at *
 generalize decide (a.num < 0) = na at *
 generalize a.num.natAbs = an at *
 generalize qden a = ad at *
 generalize b.den = bdd at *
 generalize hpn : decide (p.num < 0) = np at *
 clear hpn
 generalize p.num.natAbs = pn at *
 generalize p.den = pd at *
 obtain ⟨b0, b1, b2, hB, hZ⟩ := bx3 w 56 #[.bool na, .int .u64 (lo an : Int), .string (mo an), .int .u64 (lo ad : Int), .string (mo ad)] 56 #[.bool nb, .int .u64 (lo bn : Int), .string (mo bn), .int .u64 (lo bd : Int), .string (mo bd)] 56 #[.bool false, .int .u64 0, .string ⟨#[]⟩, .int .u64 0, .string ⟨#[]⟩]
 have ne1 := neA w.heap.size
 have ne2 := neC w.heap.size
 have ne3 := neB w.heap.size
 have ne4 := neD w.heap.size
 go_enter Tryz.func87, Tryz.ntmps87
 go_wp2_with fail
 generalize ((w.alloc (.cells #[.bool na, .int .u64 (lo an : Int), .string (mo an), .int .u64 (lo ad : Int), .string (mo ad)] 56)).alloc (.cells #[.bool nb, .int .u64 (lo bn : Int), .string (mo bn), .int .u64 (lo bd : Int), .string (mo bd)] 56)).alloc (.cells #[.bool false, .int .u64 0, .string ⟨#[]⟩, .int .u64 0, .string ⟨#[]⟩] 56) = W at *
 refine (HSG.out W).mono ?_
 rintro e w1 ⟨rfl, x9⟩
 have hB := Ja hB x9
 have b0 := b0.below x9 b0.lt
 have b1 := b1.below x9 b1.lt
 have b2 := b2.below x9 b2.lt
 have tT := hT.next hB
 go_upto_region 2 with fail
 obtain ⟨aS, aT, aU, aV, aW⟩ := b0.c5; have cJ := b0.lt; have c0 := b0.drew; have y8 := c0.lt; obtain ⟨aX, aY, aZ, bA, bB⟩ := b1.c5; have cK := b1.lt; have c1 := b1.drew; have y9 := c1.lt; have c2 := b2.drew; have aA := c2.lt; have hc := Jf w1; have tT : Tab w1.drew := tT; go_region_held3 (fun w' => w'.cell? ⟨w.heap.size, 0, none⟩ = some (.bool na) /\ w'.cell? ⟨w.heap.size, 1, none⟩ = some (.int .u64 (lo an : Int)) /\ w'.cell? ⟨w.heap.size, 2, none⟩ = some (.string (mo an)) /\ w'.cell? ⟨w.heap.size, 3, none⟩ = some (.int .u64 (lo ad : Int)) /\ w'.cell? ⟨w.heap.size, 4, none⟩ = some (.string (mo ad)) /\ w'.cell? ⟨w.heap.size + 1, 0, none⟩ = some (.bool nb) /\ w'.cell? ⟨w.heap.size + 1, 1, none⟩ = some (.int .u64 (lo bn : Int)) /\ w'.cell? ⟨w.heap.size + 1, 2, none⟩ = some (.string (mo bn)) /\ w'.cell? ⟨w.heap.size + 1, 3, none⟩ = some (.int .u64 (lo bd : Int)) /\ w'.cell? ⟨w.heap.size + 1, 4, none⟩ = some (.string (mo bd))) (go_keep) (first | (go_at_call 49; refine (HSG.out _).mono ?_; rintro e w1 ⟨rfl, aG⟩; (try clear j6 j7 j8 j9 o0); obtain ⟨c0, j6, j7, j8, j9, o0⟩ := c0.zc5 aG; (try clear y8); have y8 := c0.lt; (try clear o5 s9 t7 t8 x8); obtain ⟨c1, o5, s9, t7, t8, x8⟩ := c1.zc5 aG; (try clear y9); have y9 := c1.lt; have c2 := c2.yy aG; (try clear aA); have aA := c2.lt; (first | have tT := tT.next aG | have tT := (tT.next (Jb _ _)).next aG | have tT := (tT.next (Jl _ _ _)).next aG); have hc := Ja hc aG) | (go_at_call 67; refine (HDN.out _).mono ?_; rintro e w2 ⟨rfl, aH⟩; (try clear j6 j7 j8 j9 o0); obtain ⟨c0, j6, j7, j8, j9, o0⟩ := c0.zc5 aH; (try clear y8); have y8 := c0.lt; (try clear o5 s9 t7 t8 x8); obtain ⟨c1, o5, s9, t7, t8, x8⟩ := c1.zc5 aH; (try clear y9); have y9 := c1.lt; have c2 := c2.yy aH; (try clear aA); have aA := c2.lt; (first | have tT := tT.next aH | have tT := (tT.next (Jb _ _)).next aH | have tT := (tT.next (Jl _ _ _)).next aH); have hc := Ja hc aH) | (go_at_call 74; refine (HFR.out _).mono ?_; rintro e w3 ⟨rfl, aI⟩; (try clear j6 j7 j8 j9 o0); obtain ⟨c0, j6, j7, j8, j9, o0⟩ := c0.zc5 aI; (try clear y8); have y8 := c0.lt; (try clear o5 s9 t7 t8 x8); obtain ⟨c1, o5, s9, t7, t8, x8⟩ := c1.zc5 aI; (try clear y9); have y9 := c1.lt; have c2 := c2.yy aI; (try clear aA); have aA := c2.lt; (first | have tT := tT.next aI | have tT := (tT.next (Jb _ _)).next aI | have tT := (tT.next (Jl _ _ _)).next aI); have hc := Ja hc aI) | (go_at_call 110; refine (HAB.out _).mono ?_; rintro e w4 ⟨rfl, aJ⟩; (try clear j6 j7 j8 j9 o0); obtain ⟨c0, j6, j7, j8, j9, o0⟩ := c0.zc5 aJ; (try clear y8); have y8 := c0.lt; (try clear o5 s9 t7 t8 x8); obtain ⟨c1, o5, s9, t7, t8, x8⟩ := c1.zc5 aJ; (try clear y9); have y9 := c1.lt; have c2 := c2.yy aJ; (try clear aA); have aA := c2.lt; (first | have tT := tT.next aJ | have tT := (tT.next (Jb _ _)).next aJ | have tT := (tT.next (Jl _ _ _)).next aJ); have hc := Ja hc aJ) | (go_at_call 80; refine (HPK.out _).mono ?_; rintro e w5 ⟨rfl, aK⟩; (try clear j6 j7 j8 j9 o0); obtain ⟨c0, j6, j7, j8, j9, o0⟩ := c0.zc5 aK; (try clear y8); have y8 := c0.lt; (try clear o5 s9 t7 t8 x8); obtain ⟨c1, o5, s9, t7, t8, x8⟩ := c1.zc5 aK; (try clear y9); have y9 := c1.lt; have c2 := c2.yy aK; (try clear aA); have aA := c2.lt; (first | have tT := tT.next aK | have tT := (tT.next (Jb _ _)).next aK | have tT := (tT.next (Jl _ _ _)).next aK); have hc := Ja hc aK) | (go_at_call 37; (first | refine (HMU.out _ tT).mono ?_ | refine (HMU.out _ (tT.next (Jb _ _))).mono ?_ | refine (HMU.out _ (tT.next (Jl _ _ _))).mono ?_); rintro e w6 ⟨rfl, bE⟩; (try clear j6 j7 j8 j9 o0); obtain ⟨c0, j6, j7, j8, j9, o0⟩ := c0.zc5 bE; (try clear y8); have y8 := c0.lt; (try clear o5 s9 t7 t8 x8); obtain ⟨c1, o5, s9, t7, t8, x8⟩ := c1.zc5 bE; (try clear y9); have y9 := c1.lt; have c2 := c2.yy bE; (try clear aA); have aA := c2.lt; have hc := Ja hc bE; obtain ⟨bX, bY, bZ, cA, cB, cC, cD, cE, cF, cG, bH, bI, bJ, bK, bL⟩ := c2.f5))
 all_goals
  go_wp2
  refine bodyPost_ret (v := .tuple #[.agg #[.bool (decide (q.num < 0)), .int .u64 (lo q.num.natAbs : Int), .string (mo q.num.natAbs), .int .u64 (lo ((qden q)) : Int), .string (mo ((qden q)))], .bool true]) (by simp [results, Tryz.results87, go_sem, bH, bI, bJ, bK, bL]) rfl ?_
  exact ⟨rfl, Qy (Ja hB hc) (by omega) _ _ _ _ _⟩
theorem Je8 (a b : Rat) : Yw b a < 0 ↔ b < a := by
 unfold Yw
 by_cases h : b < a
 ·simp [h]
 simp only [h, if_false, iff_false]
 split <;> omega
theorem Jh3 (a b : Rat) : 0 < Yw b a ↔ a < b := by
 unfold Yw
 by_cases h : b < a
 ·have h2 : ¬ a < b := by grind
  simp [h, h2]
 by_cases h2 : a < b
 ·simp [h, h2]
 simp [h, h2]
theorem Jp4 (a b : Rat) (w : World) (ha : QS 549755813888 a) (hb : QS 549755813888 b) : Calls Tryz.prog 130 #[qV a, qV b] w (Ret (qV (if b < a then b else a)) w) := by
 have aL := fun w => Vf b a w hb ha
 have aM := Je8 a b
 generalize Yw b a = cv at *
 obtain ⟨r, hr⟩ : ∃ r, (if b < a then b else a) = r := ⟨_, rfl⟩
 have aN : cv < 0 -> r = b := fun h => by rw [<- hr, if_pos (aM.1 h)]
 have aO : ¬ cv < 0 -> r = a := fun h => by rw [<- hr, if_neg (fun e => h (aM.2 e))]
 rw [hr]
 clear hr aM ha hb
 unfold qV at aL ⊢
 have HCM := lh aL
 clear aL
 obtain ⟨b0, b1, b2, hB, hZ⟩ := bx3 w 56 #[.bool (decide (a.num < 0)), .int .u64 (lo a.num.natAbs : Int), .string (mo a.num.natAbs), .int .u64 (lo ((qden a)) : Int), .string (mo ((qden a)))] 56 #[.bool (decide (b.num < 0)), .int .u64 (lo b.num.natAbs : Int), .string (mo b.num.natAbs), .int .u64 (lo ((qden b)) : Int), .string (mo ((qden b)))] 56 #[.bool false, .int .u64 0, .string ⟨#[]⟩, .int .u64 0, .string ⟨#[]⟩]
 go_enter Tryz.func130, Tryz.ntmps130
 go_wp2_with fail
 generalize (((w.alloc (.cells #[.bool (decide (a.num < 0)), .int .u64 (lo a.num.natAbs : Int), .string (mo a.num.natAbs), .int .u64 (lo ((qden a)) : Int), .string (mo ((qden a)))] 56)).alloc (.cells #[.bool (decide (b.num < 0)), .int .u64 (lo b.num.natAbs : Int), .string (mo b.num.natAbs), .int .u64 (lo ((qden b)) : Int), .string (mo ((qden b)))] 56)).alloc (.cells #[.bool false, .int .u64 0, .string ⟨#[]⟩, .int .u64 0, .string ⟨#[]⟩] 56)) = W at *
 refine (HCM.out W).mono ?_
 rintro e w1 ⟨rfl, x9⟩
 have hB := Ja hB x9
 have b0 := b0.below x9 b0.lt
 have b1 := b1.below x9 b1.lt
 have b2 := b2.below x9 b2.lt
 have ne1 := neA w.heap.size
 have ne2 := neC w.heap.size
 obtain ⟨aS, aT, aU, aV, aW⟩ := b0.c5
 obtain ⟨aX, aY, aZ, bA, bB⟩ := b1.c5
 obtain ⟨bM, bN, bO, bP, bQ, bR, bS, bT, bU, bV, aB, aC, aD, aE, aF⟩ := b2.f5
 by_cases h : cv < 0
 ·obtain rfl := aN h
  have q1 : decide (cv < 0) = true := decide_eq_true h
  clear aN aO
  go_wp2
  refine bodyPost_ret (v := .agg #[.bool (decide (r.num < 0)), .int .u64 (lo r.num.natAbs : Int), .string (mo r.num.natAbs), .int .u64 (lo ((qden r)) : Int), .string (mo ((qden r)))]) (by simp [results, Tryz.results130, go_sem, aB, aC, aD, aE, aF]) rfl ?_
  exact ⟨rfl, Qy hB (by omega) _ _ _ _ _⟩
 obtain rfl := aO (by omega)
 have q1 : decide (cv < 0) = false := decide_eq_false h
 clear aN aO
 go_wp2
 refine bodyPost_ret (v := .agg #[.bool (decide (r.num < 0)), .int .u64 (lo r.num.natAbs : Int), .string (mo r.num.natAbs), .int .u64 (lo ((qden r)) : Int), .string (mo ((qden r)))]) (by simp [results, Tryz.results130, go_sem, aB, aC, aD, aE, aF]) rfl ?_
 exact ⟨rfl, Qy hB (by omega) _ _ _ _ _⟩
theorem Jp5 (a b : Rat) (w : World) (ha : QS 549755813888 a) (hb : QS 549755813888 b) : Calls Tryz.prog 31 #[qV a, qV b] w (Ret (qV (if a < b then b else a)) w) := by
 have aL := fun w => Vf b a w hb ha
 have aM := Jh3 a b
 generalize Yw b a = cv at *
 obtain ⟨r, hr⟩ : ∃ r, (if a < b then b else a) = r := ⟨_, rfl⟩
 have aN : 0 < cv -> r = b := fun h => by rw [<- hr, if_pos (aM.1 h)]
 have aO : ¬ 0 < cv -> r = a := fun h => by rw [<- hr, if_neg (fun e => h (aM.2 e))]
 rw [hr]
 clear hr aM ha hb
 unfold qV at aL ⊢
 have HCM := lh aL
 clear aL
 obtain ⟨b0, b1, b2, hB, hZ⟩ := bx3 w 56 #[.bool (decide (a.num < 0)), .int .u64 (lo a.num.natAbs : Int), .string (mo a.num.natAbs), .int .u64 (lo ((qden a)) : Int), .string (mo ((qden a)))] 56 #[.bool (decide (b.num < 0)), .int .u64 (lo b.num.natAbs : Int), .string (mo b.num.natAbs), .int .u64 (lo ((qden b)) : Int), .string (mo ((qden b)))] 56 #[.bool false, .int .u64 0, .string ⟨#[]⟩, .int .u64 0, .string ⟨#[]⟩]
 go_enter Tryz.func31, Tryz.ntmps31
 go_wp2_with fail
 generalize (((w.alloc (.cells #[.bool (decide (a.num < 0)), .int .u64 (lo a.num.natAbs : Int), .string (mo a.num.natAbs), .int .u64 (lo ((qden a)) : Int), .string (mo ((qden a)))] 56)).alloc (.cells #[.bool (decide (b.num < 0)), .int .u64 (lo b.num.natAbs : Int), .string (mo b.num.natAbs), .int .u64 (lo ((qden b)) : Int), .string (mo ((qden b)))] 56)).alloc (.cells #[.bool false, .int .u64 0, .string ⟨#[]⟩, .int .u64 0, .string ⟨#[]⟩] 56)) = W at *
 refine (HCM.out W).mono ?_
 rintro e w1 ⟨rfl, x9⟩
 have hB := Ja hB x9
 have b0 := b0.below x9 b0.lt
 have b1 := b1.below x9 b1.lt
 have b2 := b2.below x9 b2.lt
 have ne1 := neA w.heap.size
 have ne2 := neC w.heap.size
 obtain ⟨aS, aT, aU, aV, aW⟩ := b0.c5
 obtain ⟨aX, aY, aZ, bA, bB⟩ := b1.c5
 obtain ⟨bM, bN, bO, bP, bQ, bR, bS, bT, bU, bV, aB, aC, aD, aE, aF⟩ := b2.f5
 by_cases h : 0 < cv
 ·obtain rfl := aN h
  have q1 : decide (0 < cv) = true := decide_eq_true h
  clear aN aO
  go_wp2
  refine bodyPost_ret (v := .agg #[.bool (decide (r.num < 0)), .int .u64 (lo r.num.natAbs : Int), .string (mo r.num.natAbs), .int .u64 (lo ((qden r)) : Int), .string (mo ((qden r)))]) (by simp [results, Tryz.results31, go_sem, aB, aC, aD, aE, aF]) rfl ?_
  exact ⟨rfl, Qy hB (by omega) _ _ _ _ _⟩
 obtain rfl := aO (by omega)
 have q1 : decide (0 < cv) = false := decide_eq_false h
 clear aN aO
 go_wp2
 refine bodyPost_ret (v := .agg #[.bool (decide (r.num < 0)), .int .u64 (lo r.num.natAbs : Int), .string (mo r.num.natAbs), .int .u64 (lo ((qden r)) : Int), .string (mo ((qden r)))]) (by simp [results, Tryz.results31, go_sem, aB, aC, aD, aE, aF]) rfl ?_
 exact ⟨rfl, Qy hB (by omega) _ _ _ _ _⟩
