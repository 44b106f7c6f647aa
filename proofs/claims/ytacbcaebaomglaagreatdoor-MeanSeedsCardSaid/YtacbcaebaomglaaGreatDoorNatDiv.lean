import Derived.Test.YtacbcaebaomglaaGreatDoorDivWords
namespace Go.Proofs.YtacbcaebaomglaaGreatDoor
set_option maxRecDepth 100000
set_option maxHeartbeats 1000000
open Go.RowKit
set_option linter.all false
theorem Jbf (n : Nat) (h : n < 18446744073709551616) : Jh n = .agg #[.int .u64 (n : Int), .string ⟨#[]⟩] := by
 unfold Jh
 rw [Ju n h, Qa n h]
theorem Jj7 {w w' : World} {g g' : Nat} (h : Below w.heap.size w w') (hg : w.heap.size <= g) (bV : w.heap.size <= g') (x y z u : Value) : Below w.heap.size w ((((w'.setCell ⟨g, 0, none⟩ x).setCell ⟨g, 1, none⟩ y).setCell ⟨g', 0, none⟩ z).setCell ⟨g', 1, none⟩ u) := Za (Za h hg x y) bV z u
theorem Jgn (a b : Nat) (w : World) (aD : b ≠ 0) (y9 : ¬ (a < 18446744073709551616 /\ b < 18446744073709551616)) (bW : a < b) (ha : Je a <= 1099511627776) (hb : Je b <= 1099511627776) :
  Calls Tryz.prog 120 #[Jh a, Jh b] w (Ret (.tuple #[Jh 0, Jh a, .bool true]) w) := by
 have aX := (Qz b).2 aD
 have aT : ¬ b < 18446744073709551616 := fun h => y9 ⟨by omega, h⟩
 obtain ⟨d3, d4⟩ := Ka b aT
 have bQ := Zu bW
 rw [Jce]
 unfold Jh
 obtain ⟨b0, b1, b2, b3, hB, hZ⟩ := bx4 w 61 #[.int .u64 (lo a : Int), .string (mo a)] 61 #[.int .u64 (lo b : Int), .string (mo b)] 61 #[.int .u64 0, .string ⟨#[]⟩] 61 #[.int .u64 0, .string ⟨#[]⟩]
 have hz : ((Je b : Int) == 0) = false := by simp; omega
 have aY : (Je b == 0) = false := by simp; omega
 have bX : ((mo a).toList = [] /\ (mo a).toList.isEmpty = true) \/ (¬ (mo a).toList = [] /\ (mo a).toList.isEmpty = false) := by
  by_cases h : a < 18446744073709551616
  ·exact .inl (Kt a h)
  exact .inr (Ka a h)
 have HCM := lh bQ
 clear bQ
 go_enter Tryz.func120, Tryz.ntmps120
 go_wp2_with fail
 generalize ((((w.alloc (.cells #[.int .u64 (lo a : Int), .string (mo a)] 61)).alloc (.cells #[.int .u64 (lo b : Int), .string (mo b)] 61)).alloc (.cells #[.int .u64 0, .string ⟨#[]⟩] 61)).alloc (.cells #[.int .u64 0, .string ⟨#[]⟩] 61)) = W at *
 refine (Qr b W (by omega)).mono ?_
 rintro e w1 ⟨rfl, j7⟩
 have aE := Ja hB j7
 (try clear e9 j0); obtain ⟨b0, e9, j0⟩ := b0.zc2 j7; (try clear e8 j6); obtain ⟨b1, e8, j6⟩ := b1.zc2 j7
 have b2 := b2.below j7 b2.lt
 have b3 := b3.below j7 b3.lt
 clear j7
 rcases bX with ⟨aU, hm2⟩ | ⟨aU, hm2⟩
 all_goals
  go_wp2_with fail
  refine (Zt a b w1 (by omega) (by omega)).mono ?_
  rintro e w2 ⟨rfl, o0⟩
  rw [HCM.out]
  have aO := Ja aE o0
  (try clear e9 j0); obtain ⟨b0, e9, j0⟩ := b0.zc2 o0; (try clear e8 j6); obtain ⟨b1, e8, j6⟩ := b1.zc2 o0
  (try clear o7 o8 o9 p7 j8 j9); obtain ⟨b2, o7, o8, o9, p7, j8, j9⟩ := b2.zf2 o0; (try clear p8 p9 q8 s9 t7 t8); obtain ⟨b3, p8, p9, q8, s9, t7, t8⟩ := b3.zf2 o0
  have n1 := neA w.heap.size
  have n2 : ¬ w.heap.size = w.heap.size + 1 + 1 + 1 := by omega
  have n3 := neB w.heap.size
  have n4 : ¬ w.heap.size + 1 + 1 + 1 = w.heap.size := by omega
  clear o0
  go_wp2_with fail
  go_region
  go_wp2
  have c3 := (b3.far (p := ⟨w.heap.size + 1 + 1, 0, none⟩) (by simp) (.int .u64 0)).far (p := ⟨w.heap.size + 1 + 1, 1, none⟩) (by simp) (.string ⟨#[]⟩)
  obtain ⟨aF, aG, aH, aI, u4, x7⟩ := c3.f2
  refine bodyPost_ret (v := .tuple #[.agg #[.int .u64 0, .string ⟨#[]⟩], .agg #[.int .u64 (lo a : Int), .string (mo a)], .bool true]) (by simp [results, Tryz.results120, go_sem, j8, j9, u4, x7]) rfl ?_
  exact ⟨rfl, Jj7 (Jy aO 1) (by omega) (by omega) _ _ _ _⟩
theorem Jez (a b : Nat) (w : World) (aD : b ≠ 0) (ha : a < 18446744073709551616) (hb : b < 18446744073709551616) :
  Calls Tryz.prog 120 #[Jh a, Jh b] w (Ret (.tuple #[Jh (a / b), Jh (a % b), .bool true]) w) := by
 have aX := (Qz b).2 aD
 have bY := Yd b hb
 obtain ⟨q, hq⟩ : ∃ q, a / b = q := ⟨_, rfl⟩
 obtain ⟨r, hr⟩ : ∃ r, a % b = r := ⟨_, rfl⟩
 have bZ : q < 18446744073709551616 := by rw [<- hq]; exact Nat.lt_of_le_of_lt (Nat.div_le_self _ _) ha
 have aZ : r < 18446744073709551616 := by rw [<- hr]; exact Nat.lt_of_le_of_lt (Nat.mod_le _ _) ha
 rw [hq, hr, Jbf q bZ, Jbf r aZ]
 have cK : (a : Int).tdiv (b : Int) = (q : Int) := by rw [<- hq]; rfl
 have cL : (a : Int).tmod (b : Int) = (r : Int) := by rw [<- hr]; rfl
 have cM : (a : Int) / (b : Int) = (q : Int) := by rw [<- hq]; rfl
 have cN : (a : Int) % (b : Int) = (r : Int) := by rw [<- hr]; rfl
 have k1 : IntKind.u64.wrap (q : Int) = (q : Int) := Jd _ (by omega) (by omega)
 have k2 : IntKind.u64.wrap (r : Int) = (r : Int) := Jd _ (by omega) (by omega)
 have cA : ¬ (b : Int) = 0 := by omega
 have cO : (0 : Int) < (b : Int) := by omega
 obtain ⟨aU, hm2⟩ := Kt a ha
 obtain ⟨bR, bS⟩ := Kt b hb
 have hz : ((Je b : Int) == 0) = false := by simp; omega
 have aY : (Je b == 0) = false := by simp; omega
 have cB := lh (Ju a ha)
 have aP := lh (Ju b hb)
 clear hq hr
 unfold Jh
 obtain ⟨b0, b1, b2, b3, hB, hZ⟩ := bx4 w 61 #[.int .u64 (lo a : Int), .string (mo a)] 61 #[.int .u64 (lo b : Int), .string (mo b)] 61 #[.int .u64 0, .string ⟨#[]⟩] 61 #[.int .u64 0, .string ⟨#[]⟩]
 go_enter Tryz.func120, Tryz.ntmps120
 go_wp2_with fail
 generalize ((((w.alloc (.cells #[.int .u64 (lo a : Int), .string (mo a)] 61)).alloc (.cells #[.int .u64 (lo b : Int), .string (mo b)] 61)).alloc (.cells #[.int .u64 0, .string ⟨#[]⟩] 61)).alloc (.cells #[.int .u64 0, .string ⟨#[]⟩] 61)) = W at *
 refine (Qr b W (by omega)).mono ?_
 rintro e w1 ⟨rfl, j7⟩
 have aE := Ja hB j7
 (try clear e9 j0); obtain ⟨b0, e9, j0⟩ := b0.zc2 j7; (try clear e8 j6); obtain ⟨b1, e8, j6⟩ := b1.zc2 j7
 (try clear o7 o8 o9 p7 j8 j9); obtain ⟨b2, o7, o8, o9, p7, j8, j9⟩ := b2.zf2 j7; (try clear p8 p9 q8 s9 t7 t8); obtain ⟨b3, p8, p9, q8, s9, t7, t8⟩ := b3.zf2 j7
 rw [cB.out] at e9
 rw [aP.out] at e8
 have n1 := neA w.heap.size
 have n2 : ¬ w.heap.size = w.heap.size + 1 + 1 + 1 := by omega
 have n3 := neB w.heap.size
 have n4 : ¬ w.heap.size + 1 + 1 + 1 = w.heap.size := by omega
 clear j7
 go_wp2_with fail
 go_region
 go_wp2
 have c3 := (b3.far (p := ⟨w.heap.size + 1 + 1, 0, none⟩) (by simp) (.int .u64 (q : Int))).far (p := ⟨w.heap.size + 1 + 1, 1, none⟩) (by simp) (.string ⟨#[]⟩)
 obtain ⟨aF, aG, aH, aI, u4, x7⟩ := c3.f2
 refine bodyPost_ret (v := .tuple #[.agg #[.int .u64 (q : Int), .string ⟨#[]⟩], .agg #[.int .u64 (r : Int), .string ⟨#[]⟩], .bool true]) (by simp [results, Tryz.results120, go_sem, j8, j9, u4, x7]) rfl ?_
 exact ⟨rfl, Jj7 (Jy aE 1) (by omega) (by omega) _ _ _ _⟩
theorem Jgm (a b : Nat) (w : World) (aD : b ≠ 0) (y9 : ¬ a < 18446744073709551616) (hb : b < 18446744073709551616) (ha : Je a <= 1099511627776) :
  Calls Tryz.prog 120 #[Jh a, Jh b] w (Ret (.tuple #[Jh (a / b), Jh (a % b), .bool true]) w) := by
 have aX := (Qz b).2 aD
 have bY := Yd b hb
 have bT := Qu a ha
 have bA : ¬ Qx a b < 0 := by unfold Qx; rw [if_neg (by omega)]; split <;> omega
 obtain ⟨cv, aJ⟩ : ∃ cv, Qx a b = cv := ⟨_, rfl⟩
 rw [aJ] at bA
 have HCV := lh aJ
 have aZ : a % b < 18446744073709551616 := Nat.lt_trans (Nat.mod_lt _ (by omega)) hb
 rw [Jbf (a % b) aZ]
 obtain ⟨aU, hm2⟩ := Ka a y9
 obtain ⟨bR, bS⟩ := Kt b hb
 have hz : ((Je b : Int) == 0) = false := by simp; omega
 have aY : (Je b == 0) = false := by simp; omega
 have aP := lh (Ju b hb)
 clear aJ
 unfold Jh
 obtain ⟨b0, b1, b2, b3, hB, hZ⟩ := bx4 w 61 #[.int .u64 (lo a : Int), .string (mo a)] 61 #[.int .u64 (lo b : Int), .string (mo b)] 61 #[.int .u64 0, .string ⟨#[]⟩] 61 #[.int .u64 0, .string ⟨#[]⟩]
 go_enter Tryz.func120, Tryz.ntmps120
 go_wp2_with fail
 generalize ((((w.alloc (.cells #[.int .u64 (lo a : Int), .string (mo a)] 61)).alloc (.cells #[.int .u64 (lo b : Int), .string (mo b)] 61)).alloc (.cells #[.int .u64 0, .string ⟨#[]⟩] 61)).alloc (.cells #[.int .u64 0, .string ⟨#[]⟩] 61)) = W at *
 refine (Qr b W (by omega)).mono ?_
 rintro e w1 ⟨rfl, j7⟩
 have aE := Ja hB j7
 (try clear e9 j0); obtain ⟨b0, e9, j0⟩ := b0.zc2 j7; (try clear e8 j6); obtain ⟨b1, e8, j6⟩ := b1.zc2 j7
 have b2 := b2.below j7 b2.lt
 have b3 := b3.below j7 b3.lt
 clear j7
 go_wp2_with fail
 refine (Zt a b w1 (by omega) (by omega)).mono ?_
 rintro e w2 ⟨rfl, o0⟩
 rw [HCV.out]
 have aO := Ja aE o0
 (try clear e9 j0); obtain ⟨b0, e9, j0⟩ := b0.zc2 o0; (try clear e8 j6); obtain ⟨b1, e8, j6⟩ := b1.zc2 o0
 have b2 := b2.below o0 b2.lt
 have b3 := b3.below o0 b3.lt
 rw [aP.out] at e8
 clear o0
 go_upto_region 8 with fail
 go_cut [7, 8] (fun v7 v8 wc => ∃ (A : Option Addr) (nq cq : Nat) (q : List Nat), v7 = .slice A nq cq /\ v8 = .int .u64 ((a % b : Nat) : Int) /\ Reads wc wc.heap.size 1 A nq (q.map Jk) /\ Dig B64 q /\ dv B64 q = a / b /\ nq <= cq /\ nq <= 17179869185 /\ Below w2.heap.size w2 wc)
 case first =>
  have c0 := b0.drew
  have c1 := b1.drew
  have b0lt := b0.lt
  have b1lt := b1.lt
  have bB := Xo a (by omega)
  have bC := Jp a
  have HVA := lh (Jm a)
  go_region_held3 (fun w' => w'.cell? ⟨w.heap.size, 0, none⟩ = some (.int .u64 (lo a : Int)) /\ w'.cell? ⟨w.heap.size, 1, none⟩ = some (.string (mo a)) /\ w'.cell? ⟨w.heap.size + 1, 0, none⟩ = some (.int .u64 (b : Int))) (go_keep) (first | (go_at_call 127; refine (Xz a _ (by omega) (by omega)).mono ?_; rintro e wa ⟨va, rfl, aA⟩; have aK := aA.2.1; obtain ⟨Aa, ca, rfl, cC, _⟩ := aA.1.form; (try clear x8 x9); obtain ⟨c0, x8, x9⟩ := c0.zc2 aK; (try clear o6 y8); obtain ⟨c1, o6, y8⟩ := c1.zc2 aK; rw [aP.out] at o6; obtain ⟨ga, rfl⟩ := aA.1.addr bB) | (go_at_call 152; refine (Jh1 ga ca b (Jf a) _ aA.1 bC bT (by omega) hb).mono ?_; rintro e wd ⟨nq, cq, q, rfl, aL, aM, aB, bD, aQ, cD⟩; have bE : Below w2.heap.size wa wd := Exc.below cD aK.size (aA.2.2 ga rfl); have d0 := c0.below bE b0lt; have d1 := c1.below bE b1lt; obtain ⟨d0q0, d0q1⟩ := d0.c2; obtain ⟨d1q0, d1q1⟩ := d1.c2; rw [aP.out] at d1q0))
  all_goals
   go_wp2_with fail
   go_meet
   have aV : dv B64 (Jf a) = a := Jm a
   exact ⟨_, nq, cq, q, rfl, by rw [aV]; rfl, aL, aM, by rw [aB, aV], bD, aQ, (Ja9 aK).trans bE⟩
 case rest =>
  obtain ⟨A, nq, cq, q, rfl, rfl, aL, aM, aB, bD, aQ, aN⟩ := hcut
  have bF := Ja aO aN
  have b2 := b2.below aN b2.lt
  have b3 := b3.below aN b3.lt
  have HVQ := lh aB
  clear aB e9 j0 e8 j6
  generalize a % b = r at *
  go_wp2_with fail
  refine (Qe A nq cq _ q wc aL zd aM (by omega) bD).mono ?_
  rintro e w4 ⟨rfl, aC⟩
  have e5 : dv 18446744073709551616 q = a / b := HVQ.out
  rw [e5]
  have bG := Ja bF aC
  (try clear o7 o8 o9 p7 j8 j9); obtain ⟨b2, o7, o8, o9, p7, j8, j9⟩ := b2.zf2 aC; (try clear p8 p9 q8 s9 t7 t8); obtain ⟨b3, p8, p9, q8, s9, t7, t8⟩ := b3.zf2 aC
  clear e5
  unfold Jh
  generalize a / b = Q at *
  go_wp2
  have c3 := (b3.far (p := ⟨w.heap.size + 1 + 1, 0, none⟩) (by simp) (.int .u64 (lo Q : Int))).far (p := ⟨w.heap.size + 1 + 1, 1, none⟩) (by simp) (.string (mo Q))
  obtain ⟨aF, aG, aH, aI, u4, x7⟩ := c3.f2
  refine bodyPost_ret (v := .tuple #[.agg #[.int .u64 (lo Q : Int), .string (mo Q)], .agg #[.int .u64 (r : Int), .string ⟨#[]⟩], .bool true]) (by simp [results, Tryz.results120, go_sem, j8, j9, u4, x7]) rfl ?_
  exact ⟨rfl, Jj7 bG (by omega) (by omega) _ _ _ _⟩
theorem Jey (a b : Nat) (w : World) (y9 : ¬ b < 18446744073709551616) (cP : b <= a) (ha : Je a <= 1099511627776) (hb : Je b <= 1099511627776) :
  Calls Tryz.prog 120 #[Jh a, Jh b] w (Ret (.tuple #[Jh (a / b), Jh (a % b), .bool true]) w) := by
 have aX := (Qz b).2 (by omega)
 have bT := Qu a ha
 have cQ := Qu b hb
 have bA : ¬ Qx a b < 0 := by unfold Qx; rw [if_neg (by omega)]; split <;> omega
 obtain ⟨cv, aJ⟩ : ∃ cv, Qx a b = cv := ⟨_, rfl⟩
 rw [aJ] at bA
 have HCV := lh aJ
 obtain ⟨aU, hm2⟩ := Ka a (by omega)
 obtain ⟨bR, bS⟩ := Ka b y9
 have hz : ((Je b : Int) == 0) = false := by simp; omega
 have aY : (Je b == 0) = false := by simp; omega
 have bH : (Jf b).length <= (Jf a).length := by
  rcases Nat.lt_or_ge (Jf a).length (Jf b).length with h | h
  ·have := Zc h
   omega
  exact h
 have hn2 := Ye b y9
 obtain ⟨bI, cS, cE⟩ := Xx b (by omega)
 have aR : (Jf b)[(Jf b).length - 1]? = some (top b) := by
  have hl := congrArg List.length bI
  rw [List.length_append, List.length_singleton] at hl
  rw [bI, List.getElem?_append_right (by simp)]
  simp
 have bC : Dig B64 (Jf a) := Jp a
 have cF : Dig B64 (Jf b) := Jp b
 have HT := lh aR
 clear aJ bI cE aR
 unfold Jh
 obtain ⟨b0, b1, b2, b3, hB, hZ⟩ := bx4 w 61 #[.int .u64 (lo a : Int), .string (mo a)] 61 #[.int .u64 (lo b : Int), .string (mo b)] 61 #[.int .u64 0, .string ⟨#[]⟩] 61 #[.int .u64 0, .string ⟨#[]⟩]
 go_enter Tryz.func120, Tryz.ntmps120
 go_wp2_with fail
 generalize ((((w.alloc (.cells #[.int .u64 (lo a : Int), .string (mo a)] 61)).alloc (.cells #[.int .u64 (lo b : Int), .string (mo b)] 61)).alloc (.cells #[.int .u64 0, .string ⟨#[]⟩] 61)).alloc (.cells #[.int .u64 0, .string ⟨#[]⟩] 61)) = W at *
 refine (Qr b W (by omega)).mono ?_
 rintro e w1 ⟨rfl, j7⟩
 have aE := Ja hB j7
 (try clear e9 j0); obtain ⟨b0, e9, j0⟩ := b0.zc2 j7; (try clear e8 j6); obtain ⟨b1, e8, j6⟩ := b1.zc2 j7
 have b2 := b2.below j7 b2.lt
 have b3 := b3.below j7 b3.lt
 clear j7
 go_wp2_with fail
 refine (Zt a b w1 (by omega) (by omega)).mono ?_
 rintro e w2 ⟨rfl, o0⟩
 rw [HCV.out]
 have aO := Ja aE o0
 (try clear e9 j0); obtain ⟨b0, e9, j0⟩ := b0.zc2 o0; (try clear e8 j6); obtain ⟨b1, e8, j6⟩ := b1.zc2 o0
 have b2 := b2.below o0 b2.lt
 have b3 := b3.below o0 b3.lt
 clear o0
 go_upto_region 10 with fail
 go_cut [9, 10] (fun v9 v10 wc => Jju w2 a b (.returned (.tuple #[v9, v10])) wc)
 case first =>
  have c0 := b0.drew
  have c1 := b1.drew
  go_region_held3 (fun w' => w'.cell? ⟨w.heap.size, 0, none⟩ = some (.int .u64 (lo a : Int)) /\ w'.cell? ⟨w.heap.size, 1, none⟩ = some (.string (mo a)) /\ w'.cell? ⟨w.heap.size + 1, 0, none⟩ = some (.int .u64 (lo b : Int)) /\ w'.cell? ⟨w.heap.size + 1, 1, none⟩ = some (.string (mo b))) (go_keep) (first | (go_at_call_of 127 (Value.agg #[.int .u64 (lo a : Int), .string (mo a)]); refine (Xz a _ (by omega) (by omega)).mono ?_; rintro e wa ⟨va, rfl, aA⟩; have aK := aA.2.1; obtain ⟨Aa, ca, rfl, cC, _⟩ := aA.1.form; (try clear x8 x9); obtain ⟨c0, x8, x9⟩ := c0.zc2 aK; (try clear o6 y8); obtain ⟨c1, o6, y8⟩ := c1.zc2 aK) | (go_at_call_of 127 (Value.agg #[.int .u64 (lo b : Int), .string (mo b)]); refine (Xz b _ (by omega) (by omega)).mono ?_; rintro e wb ⟨vb, rfl, aW⟩; have aT := aW.2.1; obtain ⟨Ab, cb, rfl, cT, _⟩ := aW.1.form; (try clear x8 x9); obtain ⟨c0, x8, x9⟩ := c0.zc2 aT; (try clear o6 y8); obtain ⟨c1, o6, y8⟩ := c1.zc2 aT) | (go_at_call 153; (first | have hT := Two.ab aA aW | have hT := Two.ba aW aA); refine (Jgo _ _ _ _ _ _ _ _ (Jf a) (Jf b) _ (Own.reads hT.1) (Own.reads hT.2.1) zd zd bC cF (by omega) bH hn2 (top b) HT.out (by omega)).mono ?_; rintro e wm ⟨gq, m, lq, A, nr, cr, lr, rfl, aL, aM, aB, bJ, bK, aS, hm, bU, bL, bM⟩; (try clear x8 x9); obtain ⟨c0, x8, x9⟩ := c0.zc2 bM; (try clear o6 y8); obtain ⟨c1, o6, y8⟩ := c1.zc2 bM))
  all_goals
   go_wp2_with fail
   go_meet
   have aV : dv B64 (Jf a) = a := Jm a
   have cG : dv B64 (Jf b) = b := Jm b
   rw [aV, cG] at aB aS
   exact ⟨gq, m, lq, A, nr, cr, lr, rfl, aL, aM, aB, bJ, bK, aS, hm, bU, bL, Ja hT.2.2.1 bM⟩
 case rest =>
  obtain ⟨gq, m, lq, A, nr, cr, lr, he, aL, aM, aB, bJ, bK, aS, hm, bU, bL, aN⟩ := hcut
  injection he with he
  injection he with he
  have cH : u9 = .slice (some ⟨gq, 0, none⟩) m m := by
   have := congrArg (fun x : Array Value => x[0]?) he
   simpa using this
  have bN : u10 = .slice A nr cr := by
   have := congrArg (fun x : Array Value => x[1]?) he
   simpa using this
  subst cH
  subst bN
  have bF := Ja aO aN
  have b2 := b2.below aN b2.lt
  have b3 := b3.below aN b3.lt
  have HVQ := lh (And.intro aB aS)
  clear aB aS e9 j0 e8 j6 he
  go_wp2_with fail
  refine (Qe _ m m _ lq wc aL zd aM (by omega) zd).mono ?_
  rintro e w4 ⟨rfl, aC⟩
  have e5 : dv 18446744073709551616 lq = a / b := HVQ.out.1
  rw [e5]
  have bG := Ja bF aC
  have b2 := b2.below aC b2.lt
  have b3 := b3.below aC b3.lt
  have bO := Reads.below bJ aC
  have cI := aC.size
  clear e5 aC
  go_wp2_with fail
  refine (Qe A nr cr _ lr w4 bO cI bK (by omega) bL).mono ?_
  rintro e w5 ⟨rfl, bP⟩
  have e6 : dv 18446744073709551616 lr = a % b := HVQ.out.2
  rw [e6]
  have cJ := Ja bG bP
  (try clear o7 o8 o9 p7 j8 j9); obtain ⟨b2, o7, o8, o9, p7, j8, j9⟩ := b2.zf2 bP; (try clear p8 p9 q8 s9 t7 t8); obtain ⟨b3, p8, p9, q8, s9, t7, t8⟩ := b3.zf2 bP
  clear e6
  unfold Jh
  generalize a / b = Q at *
  generalize a % b = R at *
  go_wp2
  have c3 := (b3.far (p := ⟨w.heap.size + 1 + 1, 0, none⟩) (by simp) (.int .u64 (lo Q : Int))).far (p := ⟨w.heap.size + 1 + 1, 1, none⟩) (by simp) (.string (mo Q))
  obtain ⟨aF, aG, aH, aI, u4, x7⟩ := c3.f2
  refine bodyPost_ret (v := .tuple #[.agg #[.int .u64 (lo Q : Int), .string (mo Q)], .agg #[.int .u64 (lo R : Int), .string (mo R)], .bool true]) (by simp [results, Tryz.results120, go_sem, j8, j9, u4, x7]) rfl ?_
  exact ⟨rfl, Jj7 cJ (by omega) (by omega) _ _ _ _⟩
theorem Jdc (a b : Nat) (w : World) (aD : b ≠ 0) (ha : Je a <= 1099511627776) (hb : Je b <= 1099511627776) :
  Calls Tryz.prog 120 #[Jh a, Jh b] w (Ret (.tuple #[Jh (a / b), Jh (a % b), .bool true]) w) := by
 by_cases h1 : a < 18446744073709551616 /\ b < 18446744073709551616
 ·exact Jez a b w aD h1.1 h1.2
 by_cases h2 : a < b
 ·have := Jgn a b w aD h1 h2 ha hb
  rw [Nat.div_eq_of_lt h2, Nat.mod_eq_of_lt h2]
  exact this
 by_cases h3 : b < 18446744073709551616
 ·exact Jgm a b w aD (fun h => h1 ⟨h, h3⟩) h3 ha
 exact Jey a b w h3 (by omega) ha hb
