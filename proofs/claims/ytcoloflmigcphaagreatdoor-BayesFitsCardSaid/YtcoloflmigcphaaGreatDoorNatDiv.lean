import Derived.Test.YtcoloflmigcphaaGreatDoorDivWords
namespace Go.Proofs.YtcoloflmigcphaaGreatDoor
set_option maxRecDepth 100000
set_option maxHeartbeats 1000000
open Go.RowKit
set_option linter.all false
theorem Jaa (n : Nat) (h : n < 18446744073709551616) : Jg n = .agg #[.int .u64 (n : Int), .string ⟨#[]⟩] := by
 unfold Jg
 rw [Jp n h, Jy n h]
theorem Ji8 {w w' : World} {g g' : Nat} (h : Below w.heap.size w w') (hg : w.heap.size <= g) (cD : w.heap.size <= g') (x y z u : Value) : Below w.heap.size w ((((w'.setCell ⟨g, 0, none⟩ x).setCell ⟨g, 1, none⟩ y).setCell ⟨g', 0, none⟩ z).setCell ⟨g', 1, none⟩ u) := Xo (Xo h hg x y) cD z u
theorem Jfd (a b : Nat) (w : World) (aJ : b ≠ 0) (aF : ¬ (a < 18446744073709551616 /\ b < 18446744073709551616)) (cE : a < b) (ha : Je a <= 1099511627776) (hb : Je b <= 1099511627776) :
  Calls Tryz.prog 123 #[Jg a, Jg b] w (Ret (.tuple #[Jg 0, Jg a, .bool true]) w) := by
 have bE := (Qv b).2 aJ
 have aZ : ¬ b < 18446744073709551616 := fun h => aF ⟨by omega, h⟩
 obtain ⟨d3, d4⟩ := Ya b aZ
 have bY := Zq cE
 rw [Jbb]
 unfold Jg
 obtain ⟨b0, b1, b2, b3, hB, hZ⟩ := bx4 w 37 #[.int .u64 (lo a : Int), .string (mo a)] 37 #[.int .u64 (lo b : Int), .string (mo b)] 37 #[.int .u64 0, .string ⟨#[]⟩] 37 #[.int .u64 0, .string ⟨#[]⟩]
 have hz : ((Je b : Int) == 0) = false := by simp; omega
 have bF : (Je b == 0) = false := by simp; omega
 have cF : ((mo a).toList = [] /\ (mo a).toList.isEmpty = true) \/ (¬ (mo a).toList = [] /\ (mo a).toList.isEmpty = false) := by
  by_cases h : a < 18446744073709551616
  ·exact .inl (Yu a h)
  exact .inr (Ya a h)
 have HCM := lh bY
 clear bY
 go_enter Tryz.func123, Tryz.ntmps123
 go_wp2_with fail
 generalize ((((w.alloc (.cells #[.int .u64 (lo a : Int), .string (mo a)] 37)).alloc (.cells #[.int .u64 (lo b : Int), .string (mo b)] 37)).alloc (.cells #[.int .u64 0, .string ⟨#[]⟩] 37)).alloc (.cells #[.int .u64 0, .string ⟨#[]⟩] 37)) = W at *
 refine (Qn b W (by omega)).mono ?_
 rintro e w1 ⟨rfl, j9⟩
 have aK := Ja hB j9
 (try clear j6 j7); obtain ⟨b0, j6, j7⟩ := b0.zc2 j9; (try clear j0 j8); obtain ⟨b1, j0, j8⟩ := b1.zc2 j9
 have b2 := b2.below j9 b2.lt
 have b3 := b3.below j9 b3.lt
 clear j9
 rcases cF with ⟨bA, bB⟩ | ⟨bA, bB⟩
 all_goals
  go_wp2_with fail
  refine (Zb a b w1 (by omega) (by omega)).mono ?_
  rintro e w2 ⟨rfl, dH⟩
  rw [HCM.out]
  have aU := Ja aK dH
  (try clear j6 j7); obtain ⟨b0, j6, j7⟩ := b0.zc2 dH; (try clear j0 j8); obtain ⟨b1, j0, j8⟩ := b1.zc2 dH
  (try clear o9 dI p9 dJ bR dG); obtain ⟨b2, o9, dI, p9, dJ, bR, dG⟩ := b2.zf2 dH; (try clear s9 dK dL dM dN y9); obtain ⟨b3, s9, dK, dL, dM, dN, y9⟩ := b3.zf2 dH
  have n1 := neA w.heap.size
  have n2 : ¬ w.heap.size = w.heap.size + 1 + 1 + 1 := by omega
  have n3 := neB w.heap.size
  have n4 : ¬ w.heap.size + 1 + 1 + 1 = w.heap.size := by omega
  clear dH
  go_wp2_with fail
  go_region
  go_wp2
  have c3 := (b3.far (p := ⟨w.heap.size + 1 + 1, 0, none⟩) (by simp) (.int .u64 0)).far (p := ⟨w.heap.size + 1 + 1, 1, none⟩) (by simp) (.string ⟨#[]⟩)
  obtain ⟨aL, aM, aN, aO, aA, aB⟩ := c3.f2
  refine bodyPost_ret (v := .tuple #[.agg #[.int .u64 0, .string ⟨#[]⟩], .agg #[.int .u64 (lo a : Int), .string (mo a)], .bool true]) (by simp [results, Tryz.results123, go_sem, bR, dG, aA, aB]) rfl ?_
  exact ⟨rfl, Ji8 (Jw aU 1) (by omega) (by omega) _ _ _ _⟩
theorem Jdq (a b : Nat) (w : World) (aJ : b ≠ 0) (ha : a < 18446744073709551616) (hb : b < 18446744073709551616) :
  Calls Tryz.prog 123 #[Jg a, Jg b] w (Ret (.tuple #[Jg (a / b), Jg (a % b), .bool true]) w) := by
 have bE := (Qv b).2 aJ
 have cG := Ze b hb
 obtain ⟨q, hq⟩ : ∃ q, a / b = q := ⟨_, rfl⟩
 obtain ⟨r, hr⟩ : ∃ r, a % b = r := ⟨_, rfl⟩
 have cH : q < 18446744073709551616 := by rw [<- hq]; exact Nat.lt_of_le_of_lt (Nat.div_le_self _ _) ha
 have bG : r < 18446744073709551616 := by rw [<- hr]; exact Nat.lt_of_le_of_lt (Nat.mod_le _ _) ha
 rw [hq, hr, Jaa q cH, Jaa r bG]
 have cU : (a : Int).tdiv (b : Int) = (q : Int) := by rw [<- hq]; rfl
 have dR : (a : Int).tmod (b : Int) = (r : Int) := by rw [<- hr]; rfl
 have cZ : (a : Int) / (b : Int) = (q : Int) := by rw [<- hq]; rfl
 have dA : (a : Int) % (b : Int) = (r : Int) := by rw [<- hr]; rfl
 have k1 : IntKind.u64.wrap (q : Int) = (q : Int) := Jc _ (by omega) (by omega)
 have k2 : IntKind.u64.wrap (r : Int) = (r : Int) := Jc _ (by omega) (by omega)
 have cI : ¬ (b : Int) = 0 := by omega
 have dB : (0 : Int) < (b : Int) := by omega
 obtain ⟨bA, bB⟩ := Yu a ha
 obtain ⟨bZ, cA⟩ := Yu b hb
 have hz : ((Je b : Int) == 0) = false := by simp; omega
 have bF : (Je b == 0) = false := by simp; omega
 have cJ := lh (Jp a ha)
 have aV := lh (Jp b hb)
 clear hq hr
 unfold Jg
 obtain ⟨b0, b1, b2, b3, hB, hZ⟩ := bx4 w 37 #[.int .u64 (lo a : Int), .string (mo a)] 37 #[.int .u64 (lo b : Int), .string (mo b)] 37 #[.int .u64 0, .string ⟨#[]⟩] 37 #[.int .u64 0, .string ⟨#[]⟩]
 go_enter Tryz.func123, Tryz.ntmps123
 go_wp2_with fail
 generalize ((((w.alloc (.cells #[.int .u64 (lo a : Int), .string (mo a)] 37)).alloc (.cells #[.int .u64 (lo b : Int), .string (mo b)] 37)).alloc (.cells #[.int .u64 0, .string ⟨#[]⟩] 37)).alloc (.cells #[.int .u64 0, .string ⟨#[]⟩] 37)) = W at *
 refine (Qn b W (by omega)).mono ?_
 rintro e w1 ⟨rfl, j9⟩
 have aK := Ja hB j9
 (try clear j6 j7); obtain ⟨b0, j6, j7⟩ := b0.zc2 j9; (try clear j0 j8); obtain ⟨b1, j0, j8⟩ := b1.zc2 j9
 (try clear o9 dI p9 dJ bR dG); obtain ⟨b2, o9, dI, p9, dJ, bR, dG⟩ := b2.zf2 j9; (try clear s9 dK dL dM dN y9); obtain ⟨b3, s9, dK, dL, dM, dN, y9⟩ := b3.zf2 j9
 rw [cJ.out] at j6
 rw [aV.out] at j0
 have n1 := neA w.heap.size
 have n2 : ¬ w.heap.size = w.heap.size + 1 + 1 + 1 := by omega
 have n3 := neB w.heap.size
 have n4 : ¬ w.heap.size + 1 + 1 + 1 = w.heap.size := by omega
 clear j9
 go_wp2_with fail
 go_region
 go_wp2
 have c3 := (b3.far (p := ⟨w.heap.size + 1 + 1, 0, none⟩) (by simp) (.int .u64 (q : Int))).far (p := ⟨w.heap.size + 1 + 1, 1, none⟩) (by simp) (.string ⟨#[]⟩)
 obtain ⟨aL, aM, aN, aO, aA, aB⟩ := c3.f2
 refine bodyPost_ret (v := .tuple #[.agg #[.int .u64 (q : Int), .string ⟨#[]⟩], .agg #[.int .u64 (r : Int), .string ⟨#[]⟩], .bool true]) (by simp [results, Tryz.results123, go_sem, bR, dG, aA, aB]) rfl ?_
 exact ⟨rfl, Ji8 (Jw aK 1) (by omega) (by omega) _ _ _ _⟩
theorem Jfc (a b : Nat) (w : World) (aJ : b ≠ 0) (aF : ¬ a < 18446744073709551616) (hb : b < 18446744073709551616) (ha : Je a <= 1099511627776) :
  Calls Tryz.prog 123 #[Jg a, Jg b] w (Ret (.tuple #[Jg (a / b), Jg (a % b), .bool true]) w) := by
 have bE := (Qv b).2 aJ
 have cG := Ze b hb
 have cB := Qq a ha
 have bH : ¬ Qz a b < 0 := by unfold Qz; rw [if_neg (by omega)]; split <;> omega
 obtain ⟨cv, aP⟩ : ∃ cv, Qz a b = cv := ⟨_, rfl⟩
 rw [aP] at bH
 have HCV := lh aP
 have bG : a % b < 18446744073709551616 := Nat.lt_trans (Nat.mod_lt _ (by omega)) hb
 rw [Jaa (a % b) bG]
 obtain ⟨bA, bB⟩ := Ya a aF
 obtain ⟨bZ, cA⟩ := Yu b hb
 have hz : ((Je b : Int) == 0) = false := by simp; omega
 have bF : (Je b == 0) = false := by simp; omega
 have aV := lh (Jp b hb)
 clear aP
 unfold Jg
 obtain ⟨b0, b1, b2, b3, hB, hZ⟩ := bx4 w 37 #[.int .u64 (lo a : Int), .string (mo a)] 37 #[.int .u64 (lo b : Int), .string (mo b)] 37 #[.int .u64 0, .string ⟨#[]⟩] 37 #[.int .u64 0, .string ⟨#[]⟩]
 go_enter Tryz.func123, Tryz.ntmps123
 go_wp2_with fail
 generalize ((((w.alloc (.cells #[.int .u64 (lo a : Int), .string (mo a)] 37)).alloc (.cells #[.int .u64 (lo b : Int), .string (mo b)] 37)).alloc (.cells #[.int .u64 0, .string ⟨#[]⟩] 37)).alloc (.cells #[.int .u64 0, .string ⟨#[]⟩] 37)) = W at *
 refine (Qn b W (by omega)).mono ?_
 rintro e w1 ⟨rfl, j9⟩
 have aK := Ja hB j9
 (try clear j6 j7); obtain ⟨b0, j6, j7⟩ := b0.zc2 j9; (try clear j0 j8); obtain ⟨b1, j0, j8⟩ := b1.zc2 j9
 have b2 := b2.below j9 b2.lt
 have b3 := b3.below j9 b3.lt
 clear j9
 go_wp2_with fail
 refine (Zb a b w1 (by omega) (by omega)).mono ?_
 rintro e w2 ⟨rfl, dH⟩
 rw [HCV.out]
 have aU := Ja aK dH
 (try clear j6 j7); obtain ⟨b0, j6, j7⟩ := b0.zc2 dH; (try clear j0 j8); obtain ⟨b1, j0, j8⟩ := b1.zc2 dH
 have b2 := b2.below dH b2.lt
 have b3 := b3.below dH b3.lt
 rw [aV.out] at j0
 clear dH
 go_upto_region 8 with fail
 go_cut [7, 8] (fun v7 v8 wc => ∃ (A : Option Addr) (nq cq : Nat) (q : List Nat), v7 = .slice A nq cq /\ v8 = .int .u64 ((a % b : Nat) : Int) /\ Reads wc wc.heap.size 1 A nq (q.map Jh) /\ Dig B64 q /\ dv B64 q = a / b /\ nq <= cq /\ nq <= 17179869185 /\ Below w2.heap.size w2 wc)
 case first =>
  have c0 := b0.drew
  have c1 := b1.drew
  have b0lt := b0.lt
  have b1lt := b1.lt
  have bI := Xf a (by omega)
  have bJ := Jl a
  have HVA := lh (Ji a)
  go_region_held3 (fun w' => w'.cell? ⟨w.heap.size, 0, none⟩ = some (.int .u64 (lo a : Int)) /\ w'.cell? ⟨w.heap.size, 1, none⟩ = some (.string (mo a)) /\ w'.cell? ⟨w.heap.size + 1, 0, none⟩ = some (.int .u64 (b : Int))) (go_keep) (first | (go_at_call 129; refine (Xl a _ (by omega) (by omega)).mono ?_; rintro e wa ⟨va, rfl, aG⟩; have aQ := aG.2.1; obtain ⟨Aa, ca, rfl, cK, _⟩ := aG.1.form; (try clear aC aD); obtain ⟨c0, aC, aD⟩ := c0.zc2 aQ; (try clear o0 aE); obtain ⟨c1, o0, aE⟩ := c1.zc2 aQ; rw [aV.out] at o0; obtain ⟨ga, rfl⟩ := aG.1.addr bI) | (go_at_call 143; refine (Jgq ga ca b (words a) _ aG.1 bJ cB (by omega) hb).mono ?_; rintro e wd ⟨nq, cq, q, rfl, aR, aS, aH, bK, aW, cL⟩; have bL : Below w2.heap.size wa wd := Exc.below cL aQ.size (aG.2.2 ga rfl); have d0 := c0.below bL b0lt; have d1 := c1.below bL b1lt; obtain ⟨d0q0, d0q1⟩ := d0.c2; obtain ⟨d1q0, d1q1⟩ := d1.c2; rw [aV.out] at d1q0))
  all_goals
   go_wp2_with fail
   go_meet
   have bC : dv B64 (words a) = a := Ji a
   exact ⟨_, nq, cq, q, rfl, by rw [bC]; rfl, aR, aS, by rw [aH, bC], bK, aW, (Jaw aQ).trans bL⟩
 case rest =>
  obtain ⟨A, nq, cq, q, rfl, rfl, aR, aS, aH, bK, aW, aT⟩ := hcut
  have bM := Ja aU aT
  have b2 := b2.below aT b2.lt
  have b3 := b3.below aT b3.lt
  have HVQ := lh aH
  clear aH j6 j7 j0 j8
  generalize a % b = r at *
  go_wp2_with fail
  refine (Qe A nq cq _ q wc aR zd aS (by omega) bK).mono ?_
  rintro e w4 ⟨rfl, aI⟩
  have e5 : dv 18446744073709551616 q = a / b := HVQ.out
  rw [e5]
  have bN := Ja bM aI
  (try clear o9 dI p9 dJ bR dG); obtain ⟨b2, o9, dI, p9, dJ, bR, dG⟩ := b2.zf2 aI; (try clear s9 dK dL dM dN y9); obtain ⟨b3, s9, dK, dL, dM, dN, y9⟩ := b3.zf2 aI
  clear e5
  unfold Jg
  generalize a / b = Q at *
  go_wp2
  have c3 := (b3.far (p := ⟨w.heap.size + 1 + 1, 0, none⟩) (by simp) (.int .u64 (lo Q : Int))).far (p := ⟨w.heap.size + 1 + 1, 1, none⟩) (by simp) (.string (mo Q))
  obtain ⟨aL, aM, aN, aO, aA, aB⟩ := c3.f2
  refine bodyPost_ret (v := .tuple #[.agg #[.int .u64 (lo Q : Int), .string (mo Q)], .agg #[.int .u64 (r : Int), .string ⟨#[]⟩], .bool true]) (by simp [results, Tryz.results123, go_sem, bR, dG, aA, aB]) rfl ?_
  exact ⟨rfl, Ji8 bN (by omega) (by omega) _ _ _ _⟩
theorem Jdp (a b : Nat) (w : World) (aF : ¬ b < 18446744073709551616) (dC : b <= a) (ha : Je a <= 1099511627776) (hb : Je b <= 1099511627776) :
  Calls Tryz.prog 123 #[Jg a, Jg b] w (Ret (.tuple #[Jg (a / b), Jg (a % b), .bool true]) w) := by
 have bE := (Qv b).2 (by omega)
 have cB := Qq a ha
 have dD := Qq b hb
 have bH : ¬ Qz a b < 0 := by unfold Qz; rw [if_neg (by omega)]; split <;> omega
 obtain ⟨cv, aP⟩ : ∃ cv, Qz a b = cv := ⟨_, rfl⟩
 rw [aP] at bH
 have HCV := lh aP
 obtain ⟨bA, bB⟩ := Ya a (by omega)
 obtain ⟨bZ, cA⟩ := Ya b aF
 have hz : ((Je b : Int) == 0) = false := by simp; omega
 have bF : (Je b == 0) = false := by simp; omega
 have bO : (words b).length <= (words a).length := by
  rcases Nat.lt_or_ge (words a).length (words b).length with h | h
  ·have := Xp h
   omega
  exact h
 have cN := Zf b aF
 obtain ⟨bP, dE, cO⟩ := Xj b (by omega)
 have aX : (words b)[(words b).length - 1]? = some (top b) := by
  have hl := congrArg List.length bP
  rw [List.length_append, List.length_singleton] at hl
  rw [bP, List.getElem?_append_right (by simp)]
  simp
 have bJ : Dig B64 (words a) := Jl a
 have cP : Dig B64 (words b) := Jl b
 have HT := lh aX
 clear aP bP cO aX
 unfold Jg
 obtain ⟨b0, b1, b2, b3, hB, hZ⟩ := bx4 w 37 #[.int .u64 (lo a : Int), .string (mo a)] 37 #[.int .u64 (lo b : Int), .string (mo b)] 37 #[.int .u64 0, .string ⟨#[]⟩] 37 #[.int .u64 0, .string ⟨#[]⟩]
 go_enter Tryz.func123, Tryz.ntmps123
 go_wp2_with fail
 generalize ((((w.alloc (.cells #[.int .u64 (lo a : Int), .string (mo a)] 37)).alloc (.cells #[.int .u64 (lo b : Int), .string (mo b)] 37)).alloc (.cells #[.int .u64 0, .string ⟨#[]⟩] 37)).alloc (.cells #[.int .u64 0, .string ⟨#[]⟩] 37)) = W at *
 refine (Qn b W (by omega)).mono ?_
 rintro e w1 ⟨rfl, j9⟩
 have aK := Ja hB j9
 (try clear j6 j7); obtain ⟨b0, j6, j7⟩ := b0.zc2 j9; (try clear j0 j8); obtain ⟨b1, j0, j8⟩ := b1.zc2 j9
 have b2 := b2.below j9 b2.lt
 have b3 := b3.below j9 b3.lt
 clear j9
 go_wp2_with fail
 refine (Zb a b w1 (by omega) (by omega)).mono ?_
 rintro e w2 ⟨rfl, dH⟩
 rw [HCV.out]
 have aU := Ja aK dH
 (try clear j6 j7); obtain ⟨b0, j6, j7⟩ := b0.zc2 dH; (try clear j0 j8); obtain ⟨b1, j0, j8⟩ := b1.zc2 dH
 have b2 := b2.below dH b2.lt
 have b3 := b3.below dH b3.lt
 clear dH
 go_upto_region 10 with fail
 go_cut [9, 10] (fun v9 v10 wc => Jiw w2 a b (.returned (.tuple #[v9, v10])) wc)
 case first =>
  have c0 := b0.drew
  have c1 := b1.drew
  go_region_held3 (fun w' => w'.cell? ⟨w.heap.size, 0, none⟩ = some (.int .u64 (lo a : Int)) /\ w'.cell? ⟨w.heap.size, 1, none⟩ = some (.string (mo a)) /\ w'.cell? ⟨w.heap.size + 1, 0, none⟩ = some (.int .u64 (lo b : Int)) /\ w'.cell? ⟨w.heap.size + 1, 1, none⟩ = some (.string (mo b))) (go_keep) (first | (go_at_call_of 129 (Value.agg #[.int .u64 (lo a : Int), .string (mo a)]); refine (Xl a _ (by omega) (by omega)).mono ?_; rintro e wa ⟨va, rfl, aG⟩; have aQ := aG.2.1; obtain ⟨Aa, ca, rfl, cK, _⟩ := aG.1.form; (try clear aC aD); obtain ⟨c0, aC, aD⟩ := c0.zc2 aQ; (try clear o0 aE); obtain ⟨c1, o0, aE⟩ := c1.zc2 aQ) | (go_at_call_of 129 (Value.agg #[.int .u64 (lo b : Int), .string (mo b)]); refine (Xl b _ (by omega) (by omega)).mono ?_; rintro e wb ⟨vb, rfl, bD⟩; have aZ := bD.2.1; obtain ⟨Ab, cb, rfl, dF, _⟩ := bD.1.form; (try clear aC aD); obtain ⟨c0, aC, aD⟩ := c0.zc2 aZ; (try clear o0 aE); obtain ⟨c1, o0, aE⟩ := c1.zc2 aZ) | (go_at_call 144; (first | have hT := Two.ab aG bD | have hT := Two.ba bD aG); refine (Jfe _ _ _ _ _ _ _ _ (words a) (words b) _ (Own.reads hT.1) (Own.reads hT.2.1) zd zd bJ cP (by omega) bO cN (top b) HT.out (by omega)).mono ?_; rintro e wm ⟨gq, m, lq, A, nr, cr, lr, rfl, aR, aS, aH, bQ, bS, aY, hm, dO, bT, bU⟩; (try clear aC aD); obtain ⟨c0, aC, aD⟩ := c0.zc2 bU; (try clear o0 aE); obtain ⟨c1, o0, aE⟩ := c1.zc2 bU))
  all_goals
   go_wp2_with fail
   go_meet
   have bC : dv B64 (words a) = a := Ji a
   have dP : dv B64 (words b) = b := Ji b
   rw [bC, dP] at aH aY
   exact ⟨gq, m, lq, A, nr, cr, lr, rfl, aR, aS, aH, bQ, bS, aY, hm, dO, bT, Ja hT.2.2.1 bU⟩
 case rest =>
  obtain ⟨gq, m, lq, A, nr, cr, lr, he, aR, aS, aH, bQ, bS, aY, hm, dO, bT, aT⟩ := hcut
  injection he with he
  injection he with he
  have cR : u9 = .slice (some ⟨gq, 0, none⟩) m m := by
   have := congrArg (fun x : Array Value => x[0]?) he
   simpa using this
  have bV : u10 = .slice A nr cr := by
   have := congrArg (fun x : Array Value => x[1]?) he
   simpa using this
  subst cR
  subst bV
  have bM := Ja aU aT
  have b2 := b2.below aT b2.lt
  have b3 := b3.below aT b3.lt
  have HVQ := lh (And.intro aH aY)
  clear aH aY j6 j7 j0 j8 he
  go_wp2_with fail
  refine (Qe _ m m _ lq wc aR zd aS (by omega) zd).mono ?_
  rintro e w4 ⟨rfl, aI⟩
  have e5 : dv 18446744073709551616 lq = a / b := HVQ.out.1
  rw [e5]
  have bN := Ja bM aI
  have b2 := b2.below aI b2.lt
  have b3 := b3.below aI b3.lt
  have bW := Reads.below bQ aI
  have dQ := aI.size
  clear e5 aI
  go_wp2_with fail
  refine (Qe A nr cr _ lr w4 bW dQ bS (by omega) bT).mono ?_
  rintro e w5 ⟨rfl, bX⟩
  have e6 : dv 18446744073709551616 lr = a % b := HVQ.out.2
  rw [e6]
  have cT := Ja bN bX
  (try clear o9 dI p9 dJ bR dG); obtain ⟨b2, o9, dI, p9, dJ, bR, dG⟩ := b2.zf2 bX; (try clear s9 dK dL dM dN y9); obtain ⟨b3, s9, dK, dL, dM, dN, y9⟩ := b3.zf2 bX
  clear e6
  unfold Jg
  generalize a / b = Q at *
  generalize a % b = R at *
  go_wp2
  have c3 := (b3.far (p := ⟨w.heap.size + 1 + 1, 0, none⟩) (by simp) (.int .u64 (lo Q : Int))).far (p := ⟨w.heap.size + 1 + 1, 1, none⟩) (by simp) (.string (mo Q))
  obtain ⟨aL, aM, aN, aO, aA, aB⟩ := c3.f2
  refine bodyPost_ret (v := .tuple #[.agg #[.int .u64 (lo Q : Int), .string (mo Q)], .agg #[.int .u64 (lo R : Int), .string (mo R)], .bool true]) (by simp [results, Tryz.results123, go_sem, bR, dG, aA, aB]) rfl ?_
  exact ⟨rfl, Ji8 cT (by omega) (by omega) _ _ _ _⟩
theorem Jca (a b : Nat) (w : World) (aJ : b ≠ 0) (ha : Je a <= 1099511627776) (hb : Je b <= 1099511627776) :
  Calls Tryz.prog 123 #[Jg a, Jg b] w (Ret (.tuple #[Jg (a / b), Jg (a % b), .bool true]) w) := by
 by_cases h1 : a < 18446744073709551616 /\ b < 18446744073709551616
 ·exact Jdq a b w aJ h1.1 h1.2
 by_cases h2 : a < b
 ·have := Jfd a b w aJ h1 h2 ha hb
  rw [Nat.div_eq_of_lt h2, Nat.mod_eq_of_lt h2]
  exact this
 by_cases h3 : b < 18446744073709551616
 ·exact Jfc a b w aJ (fun h => h1 ⟨h, h3⟩) h3 ha
 exact Jdp a b w h3 (by omega) ha hb
