import Derived.Test.YtecnjlcfoobepaaGreatDoorDivWords
namespace Go.Proofs.YtecnjlcfoobepaaGreatDoor
set_option maxRecDepth 100000
set_option maxHeartbeats 1000000
open Go.RowKit
set_option linter.all false
theorem Jbw (n : Nat) (h : n < 18446744073709551616) : Jj n = .agg #[.int .u64 (n : Int), .string ⟨#[]⟩] := by
 unfold Jj
 rw [Jx n h, Qc n h]
theorem Jmm {w w' : World} {g g' : Nat} (h : Below w.heap.size w w') (hg : w.heap.size <= g) (cI : w.heap.size <= g') (x y z u : Value) : Below w.heap.size w ((((w'.setCell ⟨g, 0, none⟩ x).setCell ⟨g, 1, none⟩ y).setCell ⟨g', 0, none⟩ z).setCell ⟨g', 1, none⟩ u) := Xz (Xz h hg x y) cI z u
theorem Jhn (a b : Nat) (w : World) (aP : b ≠ 0) (aL : ¬ (a < 18446744073709551616 /\ b < 18446744073709551616)) (cJ : a < b) (ha : Je a <= 1099511627776) (hb : Je b <= 1099511627776) :
  Calls Tryz.prog 116 #[Jj a, Jj b] w (Ret (.tuple #[Jj 0, Jj a, .bool true]) w) := by
 have bK := (Xe b).2 aP
 have bF : ¬ b < 18446744073709551616 := fun h => aL ⟨by omega, h⟩
 obtain ⟨d3, d4⟩ := Yz b bF
 have cD := Zs cJ
 rw [Jc0]
 unfold Jj
 obtain ⟨b0, b1, b2, b3, hB, hZ⟩ := bx4 w 52 #[.int .u64 (lo a : Int), .string (mo a)] 52 #[.int .u64 (lo b : Int), .string (mo b)] 52 #[.int .u64 0, .string ⟨#[]⟩] 52 #[.int .u64 0, .string ⟨#[]⟩]
 have hz : ((Je b : Int) == 0) = false := by simp; omega
 have bL : (Je b == 0) = false := by simp; omega
 have cK : ((mo a).toList = [] /\ (mo a).toList.isEmpty = true) \/ (¬ (mo a).toList = [] /\ (mo a).toList.isEmpty = false) := by
  by_cases h : a < 18446744073709551616
  ·exact .inl (Kt a h)
  exact .inr (Yz a h)
 have HCM := lh cD
 clear cD
 go_enter Tryz.func116, Tryz.ntmps116
 go_wp2_with fail
 generalize ((((w.alloc (.cells #[.int .u64 (lo a : Int), .string (mo a)] 52)).alloc (.cells #[.int .u64 (lo b : Int), .string (mo b)] 52)).alloc (.cells #[.int .u64 0, .string ⟨#[]⟩] 52)).alloc (.cells #[.int .u64 0, .string ⟨#[]⟩] 52)) = W at *
 refine (Qx b W (by omega)).mono ?_
 rintro e w1 ⟨rfl, o0⟩
 have aQ := Ja hB o0
 (try clear j7 j8); obtain ⟨b0, j7, j8⟩ := b0.zc2 o0; (try clear j6 j9); obtain ⟨b1, j6, j9⟩ := b1.zc2 o0
 have b2 := b2.below o0 b2.lt
 have b3 := b3.below o0 b3.lt
 clear o0
 rcases cK with ⟨bG, bH⟩ | ⟨bG, bH⟩
 all_goals
  go_wp2_with fail
  refine (Zr a b w1 (by omega) (by omega)).mono ?_
  rintro e w2 ⟨rfl, t7⟩
  rw [HCM.out]
  have bA := Ja aQ t7
  (try clear j7 j8); obtain ⟨b0, j7, j8⟩ := b0.zc2 t7; (try clear j6 j9); obtain ⟨b1, j6, j9⟩ := b1.zc2 t7
  (try clear x8 x9 y8 y9 o5 s9); obtain ⟨b2, x8, x9, y8, y9, o5, s9⟩ := b2.zf2 t7; (try clear aA aB aC aD aE aF); obtain ⟨b3, aA, aB, aC, aD, aE, aF⟩ := b3.zf2 t7
  have n1 := neA w.heap.size
  have n2 : ¬ w.heap.size = w.heap.size + 1 + 1 + 1 := by omega
  have n3 := neB w.heap.size
  have n4 : ¬ w.heap.size + 1 + 1 + 1 = w.heap.size := by omega
  clear t7
  go_wp2_with fail
  go_region
  go_wp2
  have c3 := (b3.far (p := ⟨w.heap.size + 1 + 1, 0, none⟩) (by simp) (.int .u64 0)).far (p := ⟨w.heap.size + 1 + 1, 1, none⟩) (by simp) (.string ⟨#[]⟩)
  obtain ⟨aR, aS, aT, aU, aG, aH⟩ := c3.f2
  refine bodyPost_ret (v := .tuple #[.agg #[.int .u64 0, .string ⟨#[]⟩], .agg #[.int .u64 (lo a : Int), .string (mo a)], .bool true]) (by simp [results, Tryz.results116, go_sem, o5, s9, aG, aH]) rfl ?_
  exact ⟨rfl, Jmm (Jz bA 1) (by omega) (by omega) _ _ _ _⟩
theorem Jfx (a b : Nat) (w : World) (aP : b ≠ 0) (ha : a < 18446744073709551616) (hb : b < 18446744073709551616) :
  Calls Tryz.prog 116 #[Jj a, Jj b] w (Ret (.tuple #[Jj (a / b), Jj (a % b), .bool true]) w) := by
 have bK := (Xe b).2 aP
 have cL := Zz b hb
 obtain ⟨q, hq⟩ : ∃ q, a / b = q := ⟨_, rfl⟩
 obtain ⟨r, hr⟩ : ∃ r, a % b = r := ⟨_, rfl⟩
 have cM : q < 18446744073709551616 := by rw [<- hq]; exact Nat.lt_of_le_of_lt (Nat.div_le_self _ _) ha
 have bM : r < 18446744073709551616 := by rw [<- hr]; exact Nat.lt_of_le_of_lt (Nat.mod_le _ _) ha
 rw [hq, hr, Jbw q cM, Jbw r bM]
 have dB : (a : Int).tdiv (b : Int) = (q : Int) := by rw [<- hq]; rfl
 have dC : (a : Int).tmod (b : Int) = (r : Int) := by rw [<- hr]; rfl
 have dD : (a : Int) / (b : Int) = (q : Int) := by rw [<- hq]; rfl
 have dE : (a : Int) % (b : Int) = (r : Int) := by rw [<- hr]; rfl
 have k1 : IntKind.u64.wrap (q : Int) = (q : Int) := Jd _ (by omega) (by omega)
 have k2 : IntKind.u64.wrap (r : Int) = (r : Int) := Jd _ (by omega) (by omega)
 have cN : ¬ (b : Int) = 0 := by omega
 have dF : (0 : Int) < (b : Int) := by omega
 obtain ⟨bG, bH⟩ := Kt a ha
 obtain ⟨cE, cF⟩ := Kt b hb
 have hz : ((Je b : Int) == 0) = false := by simp; omega
 have bL : (Je b == 0) = false := by simp; omega
 have cO := lh (Jx a ha)
 have bB := lh (Jx b hb)
 clear hq hr
 unfold Jj
 obtain ⟨b0, b1, b2, b3, hB, hZ⟩ := bx4 w 52 #[.int .u64 (lo a : Int), .string (mo a)] 52 #[.int .u64 (lo b : Int), .string (mo b)] 52 #[.int .u64 0, .string ⟨#[]⟩] 52 #[.int .u64 0, .string ⟨#[]⟩]
 go_enter Tryz.func116, Tryz.ntmps116
 go_wp2_with fail
 generalize ((((w.alloc (.cells #[.int .u64 (lo a : Int), .string (mo a)] 52)).alloc (.cells #[.int .u64 (lo b : Int), .string (mo b)] 52)).alloc (.cells #[.int .u64 0, .string ⟨#[]⟩] 52)).alloc (.cells #[.int .u64 0, .string ⟨#[]⟩] 52)) = W at *
 refine (Qx b W (by omega)).mono ?_
 rintro e w1 ⟨rfl, o0⟩
 have aQ := Ja hB o0
 (try clear j7 j8); obtain ⟨b0, j7, j8⟩ := b0.zc2 o0; (try clear j6 j9); obtain ⟨b1, j6, j9⟩ := b1.zc2 o0
 (try clear x8 x9 y8 y9 o5 s9); obtain ⟨b2, x8, x9, y8, y9, o5, s9⟩ := b2.zf2 o0; (try clear aA aB aC aD aE aF); obtain ⟨b3, aA, aB, aC, aD, aE, aF⟩ := b3.zf2 o0
 rw [cO.out] at j7
 rw [bB.out] at j6
 have n1 := neA w.heap.size
 have n2 : ¬ w.heap.size = w.heap.size + 1 + 1 + 1 := by omega
 have n3 := neB w.heap.size
 have n4 : ¬ w.heap.size + 1 + 1 + 1 = w.heap.size := by omega
 clear o0
 go_wp2_with fail
 go_region
 go_wp2
 have c3 := (b3.far (p := ⟨w.heap.size + 1 + 1, 0, none⟩) (by simp) (.int .u64 (q : Int))).far (p := ⟨w.heap.size + 1 + 1, 1, none⟩) (by simp) (.string ⟨#[]⟩)
 obtain ⟨aR, aS, aT, aU, aG, aH⟩ := c3.f2
 refine bodyPost_ret (v := .tuple #[.agg #[.int .u64 (q : Int), .string ⟨#[]⟩], .agg #[.int .u64 (r : Int), .string ⟨#[]⟩], .bool true]) (by simp [results, Tryz.results116, go_sem, o5, s9, aG, aH]) rfl ?_
 exact ⟨rfl, Jmm (Jz aQ 1) (by omega) (by omega) _ _ _ _⟩
theorem Jhm (a b : Nat) (w : World) (aP : b ≠ 0) (aL : ¬ a < 18446744073709551616) (hb : b < 18446744073709551616) (ha : Je a <= 1099511627776) :
  Calls Tryz.prog 116 #[Jj a, Jj b] w (Ret (.tuple #[Jj (a / b), Jj (a % b), .bool true]) w) := by
 have bK := (Xe b).2 aP
 have cL := Zz b hb
 have cG := Qz a ha
 have bN : ¬ Xd a b < 0 := by unfold Xd; rw [if_neg (by omega)]; split <;> omega
 obtain ⟨cv, aV⟩ : ∃ cv, Xd a b = cv := ⟨_, rfl⟩
 rw [aV] at bN
 have HCV := lh aV
 have bM : a % b < 18446744073709551616 := Nat.lt_trans (Nat.mod_lt _ (by omega)) hb
 rw [Jbw (a % b) bM]
 obtain ⟨bG, bH⟩ := Yz a aL
 obtain ⟨cE, cF⟩ := Kt b hb
 have hz : ((Je b : Int) == 0) = false := by simp; omega
 have bL : (Je b == 0) = false := by simp; omega
 have bB := lh (Jx b hb)
 clear aV
 unfold Jj
 obtain ⟨b0, b1, b2, b3, hB, hZ⟩ := bx4 w 52 #[.int .u64 (lo a : Int), .string (mo a)] 52 #[.int .u64 (lo b : Int), .string (mo b)] 52 #[.int .u64 0, .string ⟨#[]⟩] 52 #[.int .u64 0, .string ⟨#[]⟩]
 go_enter Tryz.func116, Tryz.ntmps116
 go_wp2_with fail
 generalize ((((w.alloc (.cells #[.int .u64 (lo a : Int), .string (mo a)] 52)).alloc (.cells #[.int .u64 (lo b : Int), .string (mo b)] 52)).alloc (.cells #[.int .u64 0, .string ⟨#[]⟩] 52)).alloc (.cells #[.int .u64 0, .string ⟨#[]⟩] 52)) = W at *
 refine (Qx b W (by omega)).mono ?_
 rintro e w1 ⟨rfl, o0⟩
 have aQ := Ja hB o0
 (try clear j7 j8); obtain ⟨b0, j7, j8⟩ := b0.zc2 o0; (try clear j6 j9); obtain ⟨b1, j6, j9⟩ := b1.zc2 o0
 have b2 := b2.below o0 b2.lt
 have b3 := b3.below o0 b3.lt
 clear o0
 go_wp2_with fail
 refine (Zr a b w1 (by omega) (by omega)).mono ?_
 rintro e w2 ⟨rfl, t7⟩
 rw [HCV.out]
 have bA := Ja aQ t7
 (try clear j7 j8); obtain ⟨b0, j7, j8⟩ := b0.zc2 t7; (try clear j6 j9); obtain ⟨b1, j6, j9⟩ := b1.zc2 t7
 have b2 := b2.below t7 b2.lt
 have b3 := b3.below t7 b3.lt
 rw [bB.out] at j6
 clear t7
 go_upto_region 8 with fail
 go_cut [7, 8] (fun v7 v8 wc => ∃ (A : Option Addr) (nq cq : Nat) (q : List Nat), v7 = .slice A nq cq /\ v8 = .int .u64 ((a % b : Nat) : Int) /\ Reads wc wc.heap.size 1 A nq (q.map Jm) /\ Dig B64 q /\ dv B64 q = a / b /\ nq <= cq /\ nq <= 17179869185 /\ Below w2.heap.size w2 wc)
 case first =>
  have c0 := b0.drew
  have c1 := b1.drew
  have b0lt := b0.lt
  have b1lt := b1.lt
  have bO := Xp a (by omega)
  have bP := Js a
  have HVA := lh (Jp a)
  go_region_held3 (fun w' => w'.cell? ⟨w.heap.size, 0, none⟩ = some (.int .u64 (lo a : Int)) /\ w'.cell? ⟨w.heap.size, 1, none⟩ = some (.string (mo a)) /\ w'.cell? ⟨w.heap.size + 1, 0, none⟩ = some (.int .u64 (b : Int))) (go_keep) (first | (go_at_call 122; refine (Xx a _ (by omega) (by omega)).mono ?_; rintro e wa ⟨va, rfl, aM⟩; have aW := aM.2.1; obtain ⟨Aa, ca, rfl, cP, _⟩ := aM.1.form; (try clear aI aJ); obtain ⟨c0, aI, aJ⟩ := c0.zc2 aW; (try clear t8 aK); obtain ⟨c1, t8, aK⟩ := c1.zc2 aW; rw [bB.out] at t8; obtain ⟨ga, rfl⟩ := aM.1.addr bO) | (go_at_call 142; refine (Ji6 ga ca b (Jg a) _ aM.1 bP cG (by omega) hb).mono ?_; rintro e wd ⟨nq, cq, q, rfl, aX, aY, aN, bQ, bC, cQ⟩; have bR : Below w2.heap.size wa wd := Exc.below cQ aW.size (aM.2.2 ga rfl); have d0 := c0.below bR b0lt; have d1 := c1.below bR b1lt; obtain ⟨d0q0, d0q1⟩ := d0.c2; obtain ⟨d1q0, d1q1⟩ := d1.c2; rw [bB.out] at d1q0))
  all_goals
   go_wp2_with fail
   go_meet
   have bI : dv B64 (Jg a) = a := Jp a
   exact ⟨_, nq, cq, q, rfl, by rw [bI]; rfl, aX, aY, by rw [aN, bI], bQ, bC, (Jbq aW).trans bR⟩
 case rest =>
  obtain ⟨A, nq, cq, q, rfl, rfl, aX, aY, aN, bQ, bC, aZ⟩ := hcut
  have bS := Ja bA aZ
  have b2 := b2.below aZ b2.lt
  have b3 := b3.below aZ b3.lt
  have HVQ := lh aN
  clear aN j7 j8 j6 j9
  generalize a % b = r at *
  go_wp2_with fail
  refine (Qk A nq cq _ q wc aX zd aY (by omega) bQ).mono ?_
  rintro e w4 ⟨rfl, aO⟩
  have e5 : dv 18446744073709551616 q = a / b := HVQ.out
  rw [e5]
  have bT := Ja bS aO
  (try clear x8 x9 y8 y9 o5 s9); obtain ⟨b2, x8, x9, y8, y9, o5, s9⟩ := b2.zf2 aO; (try clear aA aB aC aD aE aF); obtain ⟨b3, aA, aB, aC, aD, aE, aF⟩ := b3.zf2 aO
  clear e5
  unfold Jj
  generalize a / b = Q at *
  go_wp2
  have c3 := (b3.far (p := ⟨w.heap.size + 1 + 1, 0, none⟩) (by simp) (.int .u64 (lo Q : Int))).far (p := ⟨w.heap.size + 1 + 1, 1, none⟩) (by simp) (.string (mo Q))
  obtain ⟨aR, aS, aT, aU, aG, aH⟩ := c3.f2
  refine bodyPost_ret (v := .tuple #[.agg #[.int .u64 (lo Q : Int), .string (mo Q)], .agg #[.int .u64 (r : Int), .string ⟨#[]⟩], .bool true]) (by simp [results, Tryz.results116, go_sem, o5, s9, aG, aH]) rfl ?_
  exact ⟨rfl, Jmm bT (by omega) (by omega) _ _ _ _⟩
theorem Jfw (a b : Nat) (w : World) (aL : ¬ b < 18446744073709551616) (dG : b <= a) (ha : Je a <= 1099511627776) (hb : Je b <= 1099511627776) :
  Calls Tryz.prog 116 #[Jj a, Jj b] w (Ret (.tuple #[Jj (a / b), Jj (a % b), .bool true]) w) := by
 have bK := (Xe b).2 (by omega)
 have cG := Qz a ha
 have dH := Qz b hb
 have bN : ¬ Xd a b < 0 := by unfold Xd; rw [if_neg (by omega)]; split <;> omega
 obtain ⟨cv, aV⟩ : ∃ cv, Xd a b = cv := ⟨_, rfl⟩
 rw [aV] at bN
 have HCV := lh aV
 obtain ⟨bG, bH⟩ := Yz a (by omega)
 obtain ⟨cE, cF⟩ := Yz b aL
 have hz : ((Je b : Int) == 0) = false := by simp; omega
 have bL : (Je b == 0) = false := by simp; omega
 have bU : (Jg b).length <= (Jg a).length := by
  rcases Nat.lt_or_ge (Jg a).length (Jg b).length with h | h
  ·have := Za h
   omega
  exact h
 have cR := Ya b aL
 obtain ⟨bV, dI, cS⟩ := Xw b (by omega)
 have bD : (Jg b)[(Jg b).length - 1]? = some (top b) := by
  have hl := congrArg List.length bV
  rw [List.length_append, List.length_singleton] at hl
  rw [bV, List.getElem?_append_right (by simp)]
  simp
 have bP : Dig B64 (Jg a) := Js a
 have cT : Dig B64 (Jg b) := Js b
 have HT := lh bD
 clear aV bV cS bD
 unfold Jj
 obtain ⟨b0, b1, b2, b3, hB, hZ⟩ := bx4 w 52 #[.int .u64 (lo a : Int), .string (mo a)] 52 #[.int .u64 (lo b : Int), .string (mo b)] 52 #[.int .u64 0, .string ⟨#[]⟩] 52 #[.int .u64 0, .string ⟨#[]⟩]
 go_enter Tryz.func116, Tryz.ntmps116
 go_wp2_with fail
 generalize ((((w.alloc (.cells #[.int .u64 (lo a : Int), .string (mo a)] 52)).alloc (.cells #[.int .u64 (lo b : Int), .string (mo b)] 52)).alloc (.cells #[.int .u64 0, .string ⟨#[]⟩] 52)).alloc (.cells #[.int .u64 0, .string ⟨#[]⟩] 52)) = W at *
 refine (Qx b W (by omega)).mono ?_
 rintro e w1 ⟨rfl, o0⟩
 have aQ := Ja hB o0
 (try clear j7 j8); obtain ⟨b0, j7, j8⟩ := b0.zc2 o0; (try clear j6 j9); obtain ⟨b1, j6, j9⟩ := b1.zc2 o0
 have b2 := b2.below o0 b2.lt
 have b3 := b3.below o0 b3.lt
 clear o0
 go_wp2_with fail
 refine (Zr a b w1 (by omega) (by omega)).mono ?_
 rintro e w2 ⟨rfl, t7⟩
 rw [HCV.out]
 have bA := Ja aQ t7
 (try clear j7 j8); obtain ⟨b0, j7, j8⟩ := b0.zc2 t7; (try clear j6 j9); obtain ⟨b1, j6, j9⟩ := b1.zc2 t7
 have b2 := b2.below t7 b2.lt
 have b3 := b3.below t7 b3.lt
 clear t7
 go_upto_region 10 with fail
 go_cut [9, 10] (fun v9 v10 wc => Jl0 w2 a b (.returned (.tuple #[v9, v10])) wc)
 case first =>
  have c0 := b0.drew
  have c1 := b1.drew
  go_region_held3 (fun w' => w'.cell? ⟨w.heap.size, 0, none⟩ = some (.int .u64 (lo a : Int)) /\ w'.cell? ⟨w.heap.size, 1, none⟩ = some (.string (mo a)) /\ w'.cell? ⟨w.heap.size + 1, 0, none⟩ = some (.int .u64 (lo b : Int)) /\ w'.cell? ⟨w.heap.size + 1, 1, none⟩ = some (.string (mo b))) (go_keep) (first | (go_at_call_of 122 (Value.agg #[.int .u64 (lo a : Int), .string (mo a)]); refine (Xx a _ (by omega) (by omega)).mono ?_; rintro e wa ⟨va, rfl, aM⟩; have aW := aM.2.1; obtain ⟨Aa, ca, rfl, cP, _⟩ := aM.1.form; (try clear aI aJ); obtain ⟨c0, aI, aJ⟩ := c0.zc2 aW; (try clear t8 aK); obtain ⟨c1, t8, aK⟩ := c1.zc2 aW) | (go_at_call_of 122 (Value.agg #[.int .u64 (lo b : Int), .string (mo b)]); refine (Xx b _ (by omega) (by omega)).mono ?_; rintro e wb ⟨vb, rfl, bJ⟩; have bF := bJ.2.1; obtain ⟨Ab, cb, rfl, dJ, _⟩ := bJ.1.form; (try clear aI aJ); obtain ⟨c0, aI, aJ⟩ := c0.zc2 bF; (try clear t8 aK); obtain ⟨c1, t8, aK⟩ := c1.zc2 bF) | (go_at_call 143; (first | have hT := Two.ab aM bJ | have hT := Two.ba bJ aM); refine (Jho _ _ _ _ _ _ _ _ (Jg a) (Jg b) _ (Own.reads hT.1) (Own.reads hT.2.1) zd zd bP cT (by omega) bU cR (top b) HT.out (by omega)).mono ?_; rintro e wm ⟨gq, m, lq, A, nr, cr, lr, rfl, aX, aY, aN, bW, bX, bE, hm, cH, bY, bZ⟩; (try clear aI aJ); obtain ⟨c0, aI, aJ⟩ := c0.zc2 bZ; (try clear t8 aK); obtain ⟨c1, t8, aK⟩ := c1.zc2 bZ))
  all_goals
   go_wp2_with fail
   go_meet
   have bI : dv B64 (Jg a) = a := Jp a
   have cU : dv B64 (Jg b) = b := Jp b
   rw [bI, cU] at aN bE
   exact ⟨gq, m, lq, A, nr, cr, lr, rfl, aX, aY, aN, bW, bX, bE, hm, cH, bY, Ja hT.2.2.1 bZ⟩
 case rest =>
  obtain ⟨gq, m, lq, A, nr, cr, lr, he, aX, aY, aN, bW, bX, bE, hm, cH, bY, aZ⟩ := hcut
  injection he with he
  injection he with he
  have cV : u9 = .slice (some ⟨gq, 0, none⟩) m m := by
   have := congrArg (fun x : Array Value => x[0]?) he
   simpa using this
  have cA : u10 = .slice A nr cr := by
   have := congrArg (fun x : Array Value => x[1]?) he
   simpa using this
  subst cV
  subst cA
  have bS := Ja bA aZ
  have b2 := b2.below aZ b2.lt
  have b3 := b3.below aZ b3.lt
  have HVQ := lh (And.intro aN bE)
  clear aN bE j7 j8 j6 j9 he
  go_wp2_with fail
  refine (Qk _ m m _ lq wc aX zd aY (by omega) zd).mono ?_
  rintro e w4 ⟨rfl, aO⟩
  have e5 : dv 18446744073709551616 lq = a / b := HVQ.out.1
  rw [e5]
  have bT := Ja bS aO
  have b2 := b2.below aO b2.lt
  have b3 := b3.below aO b3.lt
  have cB := Reads.below bW aO
  have cZ := aO.size
  clear e5 aO
  go_wp2_with fail
  refine (Qk A nr cr _ lr w4 cB cZ bX (by omega) bY).mono ?_
  rintro e w5 ⟨rfl, cC⟩
  have e6 : dv 18446744073709551616 lr = a % b := HVQ.out.2
  rw [e6]
  have dA := Ja bT cC
  (try clear x8 x9 y8 y9 o5 s9); obtain ⟨b2, x8, x9, y8, y9, o5, s9⟩ := b2.zf2 cC; (try clear aA aB aC aD aE aF); obtain ⟨b3, aA, aB, aC, aD, aE, aF⟩ := b3.zf2 cC
  clear e6
  unfold Jj
  generalize a / b = Q at *
  generalize a % b = R at *
  go_wp2
  have c3 := (b3.far (p := ⟨w.heap.size + 1 + 1, 0, none⟩) (by simp) (.int .u64 (lo Q : Int))).far (p := ⟨w.heap.size + 1 + 1, 1, none⟩) (by simp) (.string (mo Q))
  obtain ⟨aR, aS, aT, aU, aG, aH⟩ := c3.f2
  refine bodyPost_ret (v := .tuple #[.agg #[.int .u64 (lo Q : Int), .string (mo Q)], .agg #[.int .u64 (lo R : Int), .string (mo R)], .bool true]) (by simp [results, Tryz.results116, go_sem, o5, s9, aG, aH]) rfl ?_
  exact ⟨rfl, Jmm dA (by omega) (by omega) _ _ _ _⟩
theorem Jdw (a b : Nat) (w : World) (aP : b ≠ 0) (ha : Je a <= 1099511627776) (hb : Je b <= 1099511627776) :
  Calls Tryz.prog 116 #[Jj a, Jj b] w (Ret (.tuple #[Jj (a / b), Jj (a % b), .bool true]) w) := by
 by_cases h1 : a < 18446744073709551616 /\ b < 18446744073709551616
 ·exact Jfx a b w aP h1.1 h1.2
 by_cases h2 : a < b
 ·have := Jhn a b w aP h1 h2 ha hb
  rw [Nat.div_eq_of_lt h2, Nat.mod_eq_of_lt h2]
  exact this
 by_cases h3 : b < 18446744073709551616
 ·exact Jhm a b w aP (fun h => h1 ⟨h, h3⟩) h3 ha
 exact Jfw a b w h3 (by omega) ha hb
