import Derived.Test.YtacbcaebaomglaaGreatDoorDivWords
namespace Go.Proofs.YtacbcaebaomglaaGreatDoor
set_option maxRecDepth 100000
set_option maxHeartbeats 1000000
open Go.RowKit
set_option linter.all false
theorem Vr (n : Nat) (h : n < 18446744073709551616) : Jh n = .agg #[.int .u64 (n : Int), .string ⟨#[]⟩] := by
 unfold Jh
 rw [Jo n h, Ju n h]
theorem Jg8 {w w' : World} {g g' : Nat} (h : Below w.heap.size w w') (hg : w.heap.size <= g) (bQ : w.heap.size <= g') (x y z u : Value) : Below w.heap.size w ((((w'.setCell ⟨g, 0, none⟩ x).setCell ⟨g, 1, none⟩ y).setCell ⟨g', 0, none⟩ z).setCell ⟨g', 1, none⟩ u) := Xg (Xg h hg x y) bQ z u
theorem Jd7 (a b : Nat) (w : World) (y8 : b ≠ 0) (u5 : ¬ (a < 18446744073709551616 /\ b < 18446744073709551616)) (bR : a < b) (ha : Je a <= 1099511627776) (hb : Je b <= 1099511627776) :
  Calls Tryz.prog 120 #[Jh a, Jh b] w (Ret (.tuple #[Jh 0, Jh a, .bool true]) w) := by
 have aS := (Qq b).2 y8
 have aO : ¬ b < 18446744073709551616 := fun h => u5 ⟨by omega, h⟩
 obtain ⟨d3, d4⟩ := Zq b aO
 have bL := Zi bR
 rw [Jav]
 unfold Jh
 obtain ⟨b0, b1, b2, b3, hB, hZ⟩ := bx4 w 61 #[.int .u64 (lo a : Int), .string (mo a)] 61 #[.int .u64 (lo b : Int), .string (mo b)] 61 #[.int .u64 0, .string ⟨#[]⟩] 61 #[.int .u64 0, .string ⟨#[]⟩]
 have hz : ((Je b : Int) == 0) = false := by simp; omega
 have aT : (Je b == 0) = false := by simp; omega
 have bS : ((mo a).toList = [] /\ (mo a).toList.isEmpty = true) \/ (¬ (mo a).toList = [] /\ (mo a).toList.isEmpty = false) := by
  by_cases h : a < 18446744073709551616
  ·exact .inl (Ym a h)
  exact .inr (Zq a h)
 have HCM := lh bL
 clear bL
 go_enter Tryz.func120, Tryz.ntmps120
 go_wp2_with fail
 generalize ((((w.alloc (.cells #[.int .u64 (lo a : Int), .string (mo a)] 61)).alloc (.cells #[.int .u64 (lo b : Int), .string (mo b)] 61)).alloc (.cells #[.int .u64 0, .string ⟨#[]⟩] 61)).alloc (.cells #[.int .u64 0, .string ⟨#[]⟩] 61)) = W at *
 refine (Qk b W (by omega)).mono ?_
 rintro e w1 ⟨rfl, j7⟩
 have y9 := Ja hB j7
 (try clear e9 j0); obtain ⟨b0, e9, j0⟩ := b0.zc2 j7; (try clear e8 j6); obtain ⟨b1, e8, j6⟩ := b1.zc2 j7
 have b2 := b2.below j7 b2.lt
 have b3 := b3.below j7 b3.lt
 clear j7
 rcases bS with ⟨aP, hm2⟩ | ⟨aP, hm2⟩
 all_goals
  go_wp2_with fail
  refine (Xv a b w1 (by omega) (by omega)).mono ?_
  rintro e w2 ⟨rfl, l5⟩
  rw [HCM.out]
  have aJ := Ja y9 l5
  (try clear e9 j0); obtain ⟨b0, e9, j0⟩ := b0.zc2 l5; (try clear e8 j6); obtain ⟨b1, e8, j6⟩ := b1.zc2 l5
  (try clear o0 o6 o7 o8 j8 j9); obtain ⟨b2, o0, o6, o7, o8, j8, j9⟩ := b2.zf2 l5; (try clear o9 p0 p7 p8 p9 q8); obtain ⟨b3, o9, p0, p7, p8, p9, q8⟩ := b3.zf2 l5
  have n1 := neA w.heap.size
  have n2 : ¬ w.heap.size = w.heap.size + 1 + 1 + 1 := by omega
  have n3 := neB w.heap.size
  have n4 : ¬ w.heap.size + 1 + 1 + 1 = w.heap.size := by omega
  clear l5
  go_wp2_with fail
  go_region
  go_wp2
  have c3 := (b3.far (p := ⟨w.heap.size + 1 + 1, 0, none⟩) (by simp) (.int .u64 0)).far (p := ⟨w.heap.size + 1 + 1, 1, none⟩) (by simp) (.string ⟨#[]⟩)
  obtain ⟨aA, aB, aC, aD, q9, s9⟩ := c3.f2
  refine bodyPost_ret (v := .tuple #[.agg #[.int .u64 0, .string ⟨#[]⟩], .agg #[.int .u64 (lo a : Int), .string (mo a)], .bool true]) (by simp [results, Tryz.results120, go_sem, j8, j9, q9, s9]) rfl ?_
  exact ⟨rfl, Jg8 (Jx aJ 1) (by omega) (by omega) _ _ _ _⟩
theorem Jct (a b : Nat) (w : World) (y8 : b ≠ 0) (ha : a < 18446744073709551616) (hb : b < 18446744073709551616) :
  Calls Tryz.prog 120 #[Jh a, Jh b] w (Ret (.tuple #[Jh (a / b), Jh (a % b), .bool true]) w) := by
 have aS := (Qq b).2 y8
 have bT := Xz b hb
 obtain ⟨q, hq⟩ : ∃ q, a / b = q := ⟨_, rfl⟩
 obtain ⟨r, hr⟩ : ∃ r, a % b = r := ⟨_, rfl⟩
 have bU : q < 18446744073709551616 := by rw [<- hq]; exact Nat.lt_of_le_of_lt (Nat.div_le_self _ _) ha
 have aU : r < 18446744073709551616 := by rw [<- hr]; exact Nat.lt_of_le_of_lt (Nat.mod_le _ _) ha
 rw [hq, hr, Vr q bU, Vr r aU]
 have cF : (a : Int).tdiv (b : Int) = (q : Int) := by rw [<- hq]; rfl
 have cG : (a : Int).tmod (b : Int) = (r : Int) := by rw [<- hr]; rfl
 have cH : (a : Int) / (b : Int) = (q : Int) := by rw [<- hq]; rfl
 have cI : (a : Int) % (b : Int) = (r : Int) := by rw [<- hr]; rfl
 have k1 : IntKind.u64.wrap (q : Int) = (q : Int) := Jc _ (by omega) (by omega)
 have k2 : IntKind.u64.wrap (r : Int) = (r : Int) := Jc _ (by omega) (by omega)
 have bV : ¬ (b : Int) = 0 := by omega
 have cJ : (0 : Int) < (b : Int) := by omega
 obtain ⟨aP, hm2⟩ := Ym a ha
 obtain ⟨bM, bN⟩ := Ym b hb
 have hz : ((Je b : Int) == 0) = false := by simp; omega
 have aT : (Je b == 0) = false := by simp; omega
 have bW := lh (Jo a ha)
 have aK := lh (Jo b hb)
 clear hq hr
 unfold Jh
 obtain ⟨b0, b1, b2, b3, hB, hZ⟩ := bx4 w 61 #[.int .u64 (lo a : Int), .string (mo a)] 61 #[.int .u64 (lo b : Int), .string (mo b)] 61 #[.int .u64 0, .string ⟨#[]⟩] 61 #[.int .u64 0, .string ⟨#[]⟩]
 go_enter Tryz.func120, Tryz.ntmps120
 go_wp2_with fail
 generalize ((((w.alloc (.cells #[.int .u64 (lo a : Int), .string (mo a)] 61)).alloc (.cells #[.int .u64 (lo b : Int), .string (mo b)] 61)).alloc (.cells #[.int .u64 0, .string ⟨#[]⟩] 61)).alloc (.cells #[.int .u64 0, .string ⟨#[]⟩] 61)) = W at *
 refine (Qk b W (by omega)).mono ?_
 rintro e w1 ⟨rfl, j7⟩
 have y9 := Ja hB j7
 (try clear e9 j0); obtain ⟨b0, e9, j0⟩ := b0.zc2 j7; (try clear e8 j6); obtain ⟨b1, e8, j6⟩ := b1.zc2 j7
 (try clear o0 o6 o7 o8 j8 j9); obtain ⟨b2, o0, o6, o7, o8, j8, j9⟩ := b2.zf2 j7; (try clear o9 p0 p7 p8 p9 q8); obtain ⟨b3, o9, p0, p7, p8, p9, q8⟩ := b3.zf2 j7
 rw [bW.out] at e9
 rw [aK.out] at e8
 have n1 := neA w.heap.size
 have n2 : ¬ w.heap.size = w.heap.size + 1 + 1 + 1 := by omega
 have n3 := neB w.heap.size
 have n4 : ¬ w.heap.size + 1 + 1 + 1 = w.heap.size := by omega
 clear j7
 go_wp2_with fail
 go_region
 go_wp2
 have c3 := (b3.far (p := ⟨w.heap.size + 1 + 1, 0, none⟩) (by simp) (.int .u64 (q : Int))).far (p := ⟨w.heap.size + 1 + 1, 1, none⟩) (by simp) (.string ⟨#[]⟩)
 obtain ⟨aA, aB, aC, aD, q9, s9⟩ := c3.f2
 refine bodyPost_ret (v := .tuple #[.agg #[.int .u64 (q : Int), .string ⟨#[]⟩], .agg #[.int .u64 (r : Int), .string ⟨#[]⟩], .bool true]) (by simp [results, Tryz.results120, go_sem, j8, j9, q9, s9]) rfl ?_
 exact ⟨rfl, Jg8 (Jx y9 1) (by omega) (by omega) _ _ _ _⟩
theorem Jd6 (a b : Nat) (w : World) (y8 : b ≠ 0) (u5 : ¬ a < 18446744073709551616) (hb : b < 18446744073709551616) (ha : Je a <= 1099511627776) :
  Calls Tryz.prog 120 #[Jh a, Jh b] w (Ret (.tuple #[Jh (a / b), Jh (a % b), .bool true]) w) := by
 have aS := (Qq b).2 y8
 have bT := Xz b hb
 have bO := Qm a ha
 have aV : ¬ Qw a b < 0 := by unfold Qw; rw [if_neg (by omega)]; split <;> omega
 obtain ⟨cv, aE⟩ : ∃ cv, Qw a b = cv := ⟨_, rfl⟩
 rw [aE] at aV
 have HCV := lh aE
 have aU : a % b < 18446744073709551616 := Nat.lt_trans (Nat.mod_lt _ (by omega)) hb
 rw [Vr (a % b) aU]
 obtain ⟨aP, hm2⟩ := Zq a u5
 obtain ⟨bM, bN⟩ := Ym b hb
 have hz : ((Je b : Int) == 0) = false := by simp; omega
 have aT : (Je b == 0) = false := by simp; omega
 have aK := lh (Jo b hb)
 clear aE
 unfold Jh
 obtain ⟨b0, b1, b2, b3, hB, hZ⟩ := bx4 w 61 #[.int .u64 (lo a : Int), .string (mo a)] 61 #[.int .u64 (lo b : Int), .string (mo b)] 61 #[.int .u64 0, .string ⟨#[]⟩] 61 #[.int .u64 0, .string ⟨#[]⟩]
 go_enter Tryz.func120, Tryz.ntmps120
 go_wp2_with fail
 generalize ((((w.alloc (.cells #[.int .u64 (lo a : Int), .string (mo a)] 61)).alloc (.cells #[.int .u64 (lo b : Int), .string (mo b)] 61)).alloc (.cells #[.int .u64 0, .string ⟨#[]⟩] 61)).alloc (.cells #[.int .u64 0, .string ⟨#[]⟩] 61)) = W at *
 refine (Qk b W (by omega)).mono ?_
 rintro e w1 ⟨rfl, j7⟩
 have y9 := Ja hB j7
 (try clear e9 j0); obtain ⟨b0, e9, j0⟩ := b0.zc2 j7; (try clear e8 j6); obtain ⟨b1, e8, j6⟩ := b1.zc2 j7
 have b2 := b2.below j7 b2.lt
 have b3 := b3.below j7 b3.lt
 clear j7
 go_wp2_with fail
 refine (Xv a b w1 (by omega) (by omega)).mono ?_
 rintro e w2 ⟨rfl, l5⟩
 rw [HCV.out]
 have aJ := Ja y9 l5
 (try clear e9 j0); obtain ⟨b0, e9, j0⟩ := b0.zc2 l5; (try clear e8 j6); obtain ⟨b1, e8, j6⟩ := b1.zc2 l5
 have b2 := b2.below l5 b2.lt
 have b3 := b3.below l5 b3.lt
 rw [aK.out] at e8
 clear l5
 go_upto_region 8 with fail
 go_cut [7, 8] (fun v7 v8 wc => ∃ (A : Option Addr) (nq cq : Nat) (q : List Nat), v7 = .slice A nq cq /\ v8 = .int .u64 ((a % b : Nat) : Int) /\ Reads wc wc.heap.size 1 A nq (q.map Jj) /\ Dig B64 q /\ dv B64 q = a / b /\ nq <= cq /\ nq <= 17179869185 /\ Below w2.heap.size w2 wc)
 case first =>
  have c0 := b0.drew
  have c1 := b1.drew
  have b0lt := b0.lt
  have b1lt := b1.lt
  have aW := Xb a (by omega)
  have aX := Jm a
  have HVA := lh (Jk a)
  go_region_held3 (fun w' => w'.cell? ⟨w.heap.size, 0, none⟩ = some (.int .u64 (lo a : Int)) /\ w'.cell? ⟨w.heap.size, 1, none⟩ = some (.string (mo a)) /\ w'.cell? ⟨w.heap.size + 1, 0, none⟩ = some (.int .u64 (b : Int))) (go_keep) (first | (go_at_call 127; refine (Xe a _ (by omega) (by omega)).mono ?_; rintro e wa ⟨va, rfl, x7⟩; have aF := x7.2.1; obtain ⟨Aa, ca, rfl, bX, _⟩ := x7.1.form; (try clear t7 t8); obtain ⟨c0, t7, t8⟩ := c0.zc2 aF; (try clear l7 u4); obtain ⟨c1, l7, u4⟩ := c1.zc2 aF; rw [aK.out] at l7; obtain ⟨ga, rfl⟩ := x7.1.addr aW) | (go_at_call 152; refine (Jfd ga ca b (Jf a) _ x7.1 aX bO (by omega) hb).mono ?_; rintro e wd ⟨nq, cq, q, rfl, aG, aH, x8, aY, aL, bY⟩; have aZ : Below w2.heap.size wa wd := Exc.below bY aF.size (x7.2.2 ga rfl); have d0 := c0.below aZ b0lt; have d1 := c1.below aZ b1lt; obtain ⟨d0q0, d0q1⟩ := d0.c2; obtain ⟨d1q0, d1q1⟩ := d1.c2; rw [aK.out] at d1q0))
  all_goals
   go_wp2_with fail
   go_meet
   have aQ : dv B64 (Jf a) = a := Jk a
   exact ⟨_, nq, cq, q, rfl, by rw [aQ]; rfl, aG, aH, by rw [x8, aQ], aY, aL, (Vn aF).trans aZ⟩
 case rest =>
  obtain ⟨A, nq, cq, q, rfl, rfl, aG, aH, x8, aY, aL, aI⟩ := hcut
  have bA := Ja aJ aI
  have b2 := b2.below aI b2.lt
  have b3 := b3.below aI b3.lt
  have HVQ := lh x8
  clear x8 e9 j0 e8 j6
  generalize a % b = r at *
  go_wp2_with fail
  refine (Qc A nq cq _ q wc aG zd aH (by omega) aY).mono ?_
  rintro e w4 ⟨rfl, x9⟩
  have e5 : dv 18446744073709551616 q = a / b := HVQ.out
  rw [e5]
  have bB := Ja bA x9
  (try clear o0 o6 o7 o8 j8 j9); obtain ⟨b2, o0, o6, o7, o8, j8, j9⟩ := b2.zf2 x9; (try clear o9 p0 p7 p8 p9 q8); obtain ⟨b3, o9, p0, p7, p8, p9, q8⟩ := b3.zf2 x9
  clear e5
  unfold Jh
  generalize a / b = Q at *
  go_wp2
  have c3 := (b3.far (p := ⟨w.heap.size + 1 + 1, 0, none⟩) (by simp) (.int .u64 (lo Q : Int))).far (p := ⟨w.heap.size + 1 + 1, 1, none⟩) (by simp) (.string (mo Q))
  obtain ⟨aA, aB, aC, aD, q9, s9⟩ := c3.f2
  refine bodyPost_ret (v := .tuple #[.agg #[.int .u64 (lo Q : Int), .string (mo Q)], .agg #[.int .u64 (r : Int), .string ⟨#[]⟩], .bool true]) (by simp [results, Tryz.results120, go_sem, j8, j9, q9, s9]) rfl ?_
  exact ⟨rfl, Jg8 bB (by omega) (by omega) _ _ _ _⟩
theorem Jcs (a b : Nat) (w : World) (u5 : ¬ b < 18446744073709551616) (cK : b <= a) (ha : Je a <= 1099511627776) (hb : Je b <= 1099511627776) :
  Calls Tryz.prog 120 #[Jh a, Jh b] w (Ret (.tuple #[Jh (a / b), Jh (a % b), .bool true]) w) := by
 have aS := (Qq b).2 (by omega)
 have bO := Qm a ha
 have cL := Qm b hb
 have aV : ¬ Qw a b < 0 := by unfold Qw; rw [if_neg (by omega)]; split <;> omega
 obtain ⟨cv, aE⟩ : ∃ cv, Qw a b = cv := ⟨_, rfl⟩
 rw [aE] at aV
 have HCV := lh aE
 obtain ⟨aP, hm2⟩ := Zq a (by omega)
 obtain ⟨bM, bN⟩ := Zq b u5
 have hz : ((Je b : Int) == 0) = false := by simp; omega
 have aT : (Je b == 0) = false := by simp; omega
 have bC : (Jf b).length <= (Jf a).length := by
  rcases Nat.lt_or_ge (Jf a).length (Jf b).length with h | h
  ·have := Xi h
   omega
  exact h
 have hn2 := Za b u5
 obtain ⟨bD, cM, bZ⟩ := Xd b (by omega)
 have aM : (Jf b)[(Jf b).length - 1]? = some (top b) := by
  have hl := congrArg List.length bD
  rw [List.length_append, List.length_singleton] at hl
  rw [bD, List.getElem?_append_right (by simp)]
  simp
 have aX : Dig B64 (Jf a) := Jm a
 have cA : Dig B64 (Jf b) := Jm b
 have HT := lh aM
 clear aE bD bZ aM
 unfold Jh
 obtain ⟨b0, b1, b2, b3, hB, hZ⟩ := bx4 w 61 #[.int .u64 (lo a : Int), .string (mo a)] 61 #[.int .u64 (lo b : Int), .string (mo b)] 61 #[.int .u64 0, .string ⟨#[]⟩] 61 #[.int .u64 0, .string ⟨#[]⟩]
 go_enter Tryz.func120, Tryz.ntmps120
 go_wp2_with fail
 generalize ((((w.alloc (.cells #[.int .u64 (lo a : Int), .string (mo a)] 61)).alloc (.cells #[.int .u64 (lo b : Int), .string (mo b)] 61)).alloc (.cells #[.int .u64 0, .string ⟨#[]⟩] 61)).alloc (.cells #[.int .u64 0, .string ⟨#[]⟩] 61)) = W at *
 refine (Qk b W (by omega)).mono ?_
 rintro e w1 ⟨rfl, j7⟩
 have y9 := Ja hB j7
 (try clear e9 j0); obtain ⟨b0, e9, j0⟩ := b0.zc2 j7; (try clear e8 j6); obtain ⟨b1, e8, j6⟩ := b1.zc2 j7
 have b2 := b2.below j7 b2.lt
 have b3 := b3.below j7 b3.lt
 clear j7
 go_wp2_with fail
 refine (Xv a b w1 (by omega) (by omega)).mono ?_
 rintro e w2 ⟨rfl, l5⟩
 rw [HCV.out]
 have aJ := Ja y9 l5
 (try clear e9 j0); obtain ⟨b0, e9, j0⟩ := b0.zc2 l5; (try clear e8 j6); obtain ⟨b1, e8, j6⟩ := b1.zc2 l5
 have b2 := b2.below l5 b2.lt
 have b3 := b3.below l5 b3.lt
 clear l5
 go_upto_region 10 with fail
 go_cut [9, 10] (fun v9 v10 wc => Jgu w2 a b (.returned (.tuple #[v9, v10])) wc)
 case first =>
  have c0 := b0.drew
  have c1 := b1.drew
  go_region_held3 (fun w' => w'.cell? ⟨w.heap.size, 0, none⟩ = some (.int .u64 (lo a : Int)) /\ w'.cell? ⟨w.heap.size, 1, none⟩ = some (.string (mo a)) /\ w'.cell? ⟨w.heap.size + 1, 0, none⟩ = some (.int .u64 (lo b : Int)) /\ w'.cell? ⟨w.heap.size + 1, 1, none⟩ = some (.string (mo b))) (go_keep) (first | (go_at_call_of 127 (Value.agg #[.int .u64 (lo a : Int), .string (mo a)]); refine (Xe a _ (by omega) (by omega)).mono ?_; rintro e wa ⟨va, rfl, x7⟩; have aF := x7.2.1; obtain ⟨Aa, ca, rfl, bX, _⟩ := x7.1.form; (try clear t7 t8); obtain ⟨c0, t7, t8⟩ := c0.zc2 aF; (try clear l7 u4); obtain ⟨c1, l7, u4⟩ := c1.zc2 aF) | (go_at_call_of 127 (Value.agg #[.int .u64 (lo b : Int), .string (mo b)]); refine (Xe b _ (by omega) (by omega)).mono ?_; rintro e wb ⟨vb, rfl, aR⟩; have aO := aR.2.1; obtain ⟨Ab, cb, rfl, cN, _⟩ := aR.1.form; (try clear t7 t8); obtain ⟨c0, t7, t8⟩ := c0.zc2 aO; (try clear l7 u4); obtain ⟨c1, l7, u4⟩ := c1.zc2 aO) | (go_at_call 153; (first | have hT := Two.ab x7 aR | have hT := Two.ba aR x7); refine (Jd8 _ _ _ _ _ _ _ _ (Jf a) (Jf b) _ (Own.reads hT.1) (Own.reads hT.2.1) zd zd aX cA (by omega) bC hn2 (top b) HT.out (by omega)).mono ?_; rintro e wm ⟨gq, m, lq, A, nr, cr, lr, rfl, aG, aH, x8, bE, bF, aN, hm, bP, bG, bH⟩; (try clear t7 t8); obtain ⟨c0, t7, t8⟩ := c0.zc2 bH; (try clear l7 u4); obtain ⟨c1, l7, u4⟩ := c1.zc2 bH))
  all_goals
   go_wp2_with fail
   go_meet
   have aQ : dv B64 (Jf a) = a := Jk a
   have cB : dv B64 (Jf b) = b := Jk b
   rw [aQ, cB] at x8 aN
   exact ⟨gq, m, lq, A, nr, cr, lr, rfl, aG, aH, x8, bE, bF, aN, hm, bP, bG, Ja hT.2.2.1 bH⟩
 case rest =>
  obtain ⟨gq, m, lq, A, nr, cr, lr, he, aG, aH, x8, bE, bF, aN, hm, bP, bG, aI⟩ := hcut
  injection he with he
  injection he with he
  have cC : u9 = .slice (some ⟨gq, 0, none⟩) m m := by
   have := congrArg (fun x : Array Value => x[0]?) he
   simpa using this
  have bI : u10 = .slice A nr cr := by
   have := congrArg (fun x : Array Value => x[1]?) he
   simpa using this
  subst cC
  subst bI
  have bA := Ja aJ aI
  have b2 := b2.below aI b2.lt
  have b3 := b3.below aI b3.lt
  have HVQ := lh (And.intro x8 aN)
  clear x8 aN e9 j0 e8 j6 he
  go_wp2_with fail
  refine (Qc _ m m _ lq wc aG zd aH (by omega) zd).mono ?_
  rintro e w4 ⟨rfl, x9⟩
  have e5 : dv 18446744073709551616 lq = a / b := HVQ.out.1
  rw [e5]
  have bB := Ja bA x9
  have b2 := b2.below x9 b2.lt
  have b3 := b3.below x9 b3.lt
  have bJ := Reads.below bE x9
  have cD := x9.size
  clear e5 x9
  go_wp2_with fail
  refine (Qc A nr cr _ lr w4 bJ cD bF (by omega) bG).mono ?_
  rintro e w5 ⟨rfl, bK⟩
  have e6 : dv 18446744073709551616 lr = a % b := HVQ.out.2
  rw [e6]
  have cE := Ja bB bK
  (try clear o0 o6 o7 o8 j8 j9); obtain ⟨b2, o0, o6, o7, o8, j8, j9⟩ := b2.zf2 bK; (try clear o9 p0 p7 p8 p9 q8); obtain ⟨b3, o9, p0, p7, p8, p9, q8⟩ := b3.zf2 bK
  clear e6
  unfold Jh
  generalize a / b = Q at *
  generalize a % b = R at *
  go_wp2
  have c3 := (b3.far (p := ⟨w.heap.size + 1 + 1, 0, none⟩) (by simp) (.int .u64 (lo Q : Int))).far (p := ⟨w.heap.size + 1 + 1, 1, none⟩) (by simp) (.string (mo Q))
  obtain ⟨aA, aB, aC, aD, q9, s9⟩ := c3.f2
  refine bodyPost_ret (v := .tuple #[.agg #[.int .u64 (lo Q : Int), .string (mo Q)], .agg #[.int .u64 (lo R : Int), .string (mo R)], .bool true]) (by simp [results, Tryz.results120, go_sem, j8, j9, q9, s9]) rfl ?_
  exact ⟨rfl, Jg8 cE (by omega) (by omega) _ _ _ _⟩
theorem Jbc (a b : Nat) (w : World) (y8 : b ≠ 0) (ha : Je a <= 1099511627776) (hb : Je b <= 1099511627776) :
  Calls Tryz.prog 120 #[Jh a, Jh b] w (Ret (.tuple #[Jh (a / b), Jh (a % b), .bool true]) w) := by
 by_cases h1 : a < 18446744073709551616 /\ b < 18446744073709551616
 ·exact Jct a b w y8 h1.1 h1.2
 by_cases h2 : a < b
 ·have := Jd7 a b w y8 h1 h2 ha hb
  rw [Nat.div_eq_of_lt h2, Nat.mod_eq_of_lt h2]
  exact this
 by_cases h3 : b < 18446744073709551616
 ·exact Jd6 a b w y8 (fun h => h1 ⟨h, h3⟩) h3 ha
 exact Jcs a b w h3 (by omega) ha hb
