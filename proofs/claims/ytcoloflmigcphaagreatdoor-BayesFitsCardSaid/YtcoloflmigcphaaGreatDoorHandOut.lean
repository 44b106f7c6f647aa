import Derived.Test.YtcoloflmigcphaaGreatDoorRefQ
import Derived.Test.YtcoloflmigcphaaGreatDoorHand
namespace Go.Proofs.YtcoloflmigcphaaGreatDoor
set_option maxRecDepth 100000
set_option maxHeartbeats 1000000
open Go.RowKit
set_option linter.all false
theorem Jbx (a : Nat) (w : World) (ha : Je a <= 1099511627776) : Calls Tryz.prog 109 #[Jg a] w (Jkl a w) := by
 have aI := fun w => Jd9 a w (by omega)
 unfold Jg at aI ⊢
 have HBT := lh aI
 clear aI
 have bC : Xs a <= 1099511627776 := by unfold Xs; omega
 obtain ⟨b0, hB, hZ⟩ := bx1 w 37 #[.int .u64 (lo a : Int), .string (mo a)]
 go_enter Tryz.func109, Tryz.ntmps109
 go_wp2_with fail
 generalize (w.alloc (.cells #[.int .u64 (lo a : Int), .string (mo a)] 37)) = W at *
 refine (HBT.out W).mono ?_
 rintro e w1 ⟨v1, rfl, aE, o0, _⟩
 obtain ⟨A, c, hv, bS, bT⟩ := aE.form
 rw [hv] at aE
 rw [hv]
 have hr := aE.reads
 have hl := Jgs a
 rw [hl] at hr
 rw [hl]
 have aJ := Jk2 A (Xs a) c w1.heap.size (Jgt a) w1 hr zd bC
 rw [Jc6] at aJ
 have HF := lh aJ
 clear hv hl hr aE aJ
 go_wp2_with fail
 refine HF.out.mono ?_
 rintro e w2 ⟨v2, rfl, bV, p9⟩
 obtain ⟨A2, l2, c2c, rfl⟩ := bV.form
 go_wp2
 go_ret
 exact ⟨_, rfl, bV, Ja (Ja hB o0) p9⟩
theorem Jgz (z : Int) (w : World) (hz : Je z.natAbs <= 1099511627776) : Calls Tryz.prog 107 #[Qj z] w (Jiv z w) := by
 have aK := fun w => Vy z w (by omega)
 have aF := fun w => Ja3 z w
 have bX := fun w => Jbx z.natAbs w hz
 have aL : ∀ w' V, IsN w' w'.heap.size V z.natAbs -> Calls Tryz.prog 115 #[.bool (decide (z < 0)), V] w' (Jiv z w') := fun w' V hv => by
  have h := Je1 (decide (z < 0)) z.natAbs _ V w' hv zd
  have e : signed (decide (z < 0)) z.natAbs = z := by
   unfold signed
   by_cases h : z < 0
   ·rw [decide_eq_true h]; simp; omega
   rw [decide_eq_false h]; simp; omega
  rw [e] at h
  exact h
 have aX : decide (z < 0) = decide (z.sign < 0) := by
  by_cases h : z < 0
  ·rw [decide_eq_true h, Int.sign_eq_neg_one_of_neg h]; rfl
  have := Int.sign_nonneg_iff.2 (Int.not_lt.1 h)
  rw [decide_eq_false h, decide_eq_false (by omega)]
 rw [aX] at aL
 clear aX
 unfold Qj at aK aF ⊢
 unfold Jg at aF bX
 generalize z.sign = sg at *
 generalize decide (z < 0) = ng at *
 have HSG := lh aK
 have HAB := lh aF
 have HON := lh bX
 have HMK := lh aL
 clear aK aF bX aL
 obtain ⟨b0, b1, hB, hZ⟩ := bx2 w 39 #[.bool ng, .int .u64 (lo z.natAbs : Int), .string (mo z.natAbs)] 26 #[.bool false, .slice none 0 0]
 have ne1 := neE w.heap.size
 have ne2 := neF w.heap.size
 go_enter Tryz.func107, Tryz.ntmps107
 go_upto_region 1 with fail
 generalize ((w.alloc (.cells #[.bool ng, .int .u64 (lo z.natAbs : Int), .string (mo z.natAbs)] 39)).alloc (.cells #[.bool false, .slice none 0 0] 26)) = W at *
 obtain ⟨aM, aN, aO⟩ := b0.c3; have c0 := b0.drew; have j8 := c0.lt; have c1 := b1.drew; have j9 := c1.lt; have hc := Jt W; go_region_held3 (fun w' => w'.cell? ⟨w.heap.size, 0, none⟩ = some (.bool ng) /\ w'.cell? ⟨w.heap.size, 1, none⟩ = some (.int .u64 (lo z.natAbs : Int)) /\ w'.cell? ⟨w.heap.size, 2, none⟩ = some (.string (mo z.natAbs))) (go_keep) (first | ((first | (go_at_call 65; (with_reducible refine (HSG.out _).mono ?_); rintro e w1 ⟨rfl, bR⟩) | (go_at_call 101; (with_reducible refine (HAB.out _).mono ?_); rintro e w2 ⟨rfl, bR⟩) | (go_at_call 109; (with_reducible refine (HON.out _).mono ?_); rintro e w3 ⟨v3, rfl, aG, bR⟩; obtain ⟨A3, l3, c3c, bD⟩ := aG.form; subst bD) | (go_at_call 115; (with_reducible refine (HMK.out _ _ aG).mono ?_); rintro e w4 ⟨v4, rfl, aA, bR⟩; obtain ⟨g4, A4, l4, c4c, aP⟩ := aA.shape; subst aP; have aG := (aG.next zd bR).more bR.size; have lst := True.intro)); (try clear j0 j6 j7); obtain ⟨c0, j0, j6, j7⟩ := c0.zc3 bR; (try clear j8); have j8 := c0.lt; have c1 := c1.below bR c1.lt; (try clear j9); have j9 := c1.lt; have hc := Ja hc bR; (try (clear lst; obtain ⟨aQ, aR, aS, aT, bY, bZ⟩ := c1.f2))))
 all_goals
  go_wp2
  refine bodyPost_ret (v := .agg #[.bool g4, .slice A4 l4 c4c]) (by simp [results, Tryz.results107, go_sem, bY, bZ]) rfl ?_
  exact Ja6 hB hc aA c1 (by omega)
theorem Jlj (q : Rat) (w : World) (hq : QS 1099511627776 q) : Calls Tryz.prog 60 #[qV q] w (Jmv q w) := by
 have bW := fun w => Jlm q w
 have s9 := fun w => Yi q w hq
 have aU := fun w => Jgz q.num w hq.1
 have bX := fun w => Jbx q.den w hq.2
 unfold qV at bW s9 ⊢
 unfold Qj at bW aU
 unfold Jg at s9 bX
 clear hq
 generalize decide (q.num < 0) = nq at *
 have HNUM := lh bW
 have HDEN := lh s9
 have HOI := lh aU
 have HON := lh bX
 clear bW s9 aU bX
 obtain ⟨b0, b1, hB, hZ⟩ := bx2 w 41 #[.bool nq, .int .u64 (lo q.num.natAbs : Int), .string (mo q.num.natAbs), .int .u64 (lo (qden q) : Int), .string (mo (qden q))] 28 #[.bool false, .slice none 0 0, .slice none 0 0]
 have ne1 := neE w.heap.size
 have ne2 := neF w.heap.size
 go_enter Tryz.func60, Tryz.ntmps60
 go_upto_region 1 with fail
 generalize ((w.alloc (.cells #[.bool nq, .int .u64 (lo q.num.natAbs : Int), .string (mo q.num.natAbs), .int .u64 (lo (qden q) : Int), .string (mo (qden q))] 41)).alloc (.cells #[.bool false, .slice none 0 0, .slice none 0 0] 28)) = W at *
 obtain ⟨aM, aN, aO, bE, bF⟩ := b0.c5; have c0 := b0.drew; have j8 := c0.lt; have c1 := b1.drew; have j9 := c1.lt; have hc := Jt W; go_region_held3 (fun w' => w'.cell? ⟨w.heap.size, 0, none⟩ = some (.bool nq) /\ w'.cell? ⟨w.heap.size, 1, none⟩ = some (.int .u64 (lo q.num.natAbs : Int)) /\ w'.cell? ⟨w.heap.size, 2, none⟩ = some (.string (mo q.num.natAbs)) /\ w'.cell? ⟨w.heap.size, 3, none⟩ = some (.int .u64 (lo (qden q) : Int)) /\ w'.cell? ⟨w.heap.size, 4, none⟩ = some (.string (mo (qden q)))) (go_keep) (first | ((first | (go_at_call 108; (with_reducible refine (HNUM.out _).mono ?_); rintro e w1 ⟨rfl, bR⟩) | (go_at_call 107; (with_reducible refine (HOI.out _).mono ?_); rintro e w2 ⟨v2, rfl, bV, bR⟩; obtain ⟨g2, A2, l2, c2c, bG⟩ := bV.shape; subst bG) | (go_at_call 81; (with_reducible refine (HDEN.out _).mono ?_); rintro e w3 ⟨rfl, bR⟩; have bV := (bV.next zd bR).more bR.size) | (go_at_call 109; (with_reducible refine (HON.out _).mono ?_); rintro e w4 ⟨v4, rfl, aA, bR⟩; obtain ⟨A4, l4, c4c, aP⟩ := aA.form; subst aP; have bV := (bV.next zd bR).more bR.size; have lst := True.intro)); (try clear j0 j6 j7 cD cE); obtain ⟨c0, j0, j6, j7, cD, cE⟩ := c0.zc5 bR; (try clear j8); have j8 := c0.lt; have c1 := c1.below bR c1.lt; (try clear j9); have j9 := c1.lt; have hc := Ja hc bR; (try (clear lst; obtain ⟨aQ, aR, bH, aS, aT, bI, bY, bZ, aV⟩ := c1.f3))))
 all_goals
  go_wp2
  refine bodyPost_ret (v := .agg #[.bool g2, .slice A2 l2 c2c, .slice A4 l4 c4c]) (by simp [results, Tryz.results60, go_sem, bY, bZ, aV]) rfl ?_
  exact Jd4 hB hc (IsQ.mk (q := q) bV aA) c1 (by omega)
theorem Jj7 (q : Rat) (B : Nat) (V : Value) (w : World) (h : IsQ w B V q) (aY : B <= w.heap.size) (hq : QS 1099511627776 q) : Calls Tryz.prog 66 #[qV q, V] w (Ret (.bool true) w) := by
 obtain ⟨n0, A0, l0, c0c, A9, l9, c9c, rfl⟩ := h.shape
 have aZ := h.parts.1
 have bA : l9 = (Jd q.den).length := by
  obtain ⟨A', c', h1, _⟩ := h.parts.2.2
  injection h1
 have aW := Ks q.den
 rw [<- bA] at aW
 have bJ : ((l9 : Int) == 0) = false := by
  have := q.den_nz
  simp
  intro e
  exact this (aW.1 (by omega))
 have H := lh h
 have aH := fun w => Jlj q w hq
 have s1 : (Jd q.num.natAbs).length <= 34359738368 := Jbv _ hq.1
 have s2 : (Jd q.den).length <= 34359738368 := Jbv _ hq.2
 unfold qV at aH ⊢
 rw [aZ] at aH ⊢
 have HOT := lh aH
 clear h aH hq bA aW
 obtain ⟨b0, b1, hB, hZ⟩ := bx2 w 41 #[.bool n0, .int .u64 (lo q.num.natAbs : Int), .string (mo q.num.natAbs), .int .u64 (lo (qden q) : Int), .string (mo (qden q))] 28 #[.bool n0, .slice A0 l0 c0c, .slice A9 l9 c9c]
 go_enter Tryz.func66, Tryz.ntmps66
 go_wp2_with fail
 generalize ((w.alloc (.cells #[.bool n0, .int .u64 (lo q.num.natAbs : Int), .string (mo q.num.natAbs), .int .u64 (lo (qden q) : Int), .string (mo (qden q))] 41)).alloc (.cells #[.bool n0, .slice A0 l0 c0c, .slice A9 l9 c9c] 28)) = W at *
 have h1 : IsQ W W.heap.size (.agg #[.bool n0, .slice A0 l0 c0c, .slice A9 l9 c9c]) q := (H.out.next aY hB).more (nt aY hB.size)
 clear H
 refine (HOT.out W).mono ?_
 rintro e w1 ⟨V1, rfl, cA, o0⟩
 obtain ⟨g1, A1, l1, c1c, A2, l2, c2c, rfl⟩ := cA.shape
 have bB := cA.parts.1
 rw [aZ] at bB
 subst bB
 have b1 := b1.below o0 b1.lt
 have h1 := (h1.next zd o0).more o0.size
 have bK := Ja hB o0
 have bL := b1.lt
 have bt := Blk.new w1 28 #[.bool n0, .slice A1 l1 c1c, .slice A2 l2 c2c]
 have b1 := b1.alloc (.cells #[.bool n0, .slice A1 l1 c1c, .slice A2 l2 c2c] 28)
 have y9 := Jb w1 (.cells #[.bool n0, .slice A1 l1 c1c, .slice A2 l2 c2c] 28)
 have h1 := (h1.next zd y9).more y9.size
 have cA := (cA.next zd y9).more y9.size
 have bM := Ja bK y9
 clear y9 HOT b0
 have HC1 := lh (Jai q.num.natAbs q.num.natAbs _ _ _ _ _ cA.parts.2.1 h1.parts.2.1 s1 s1)
 have HQ1 := lh h1
 have HQ2 := lh cA
 clear h1 cA
 obtain ⟨aB, aC, aD⟩ := b1.c3
 go_wp2_with fail
 have bU : ¬ w1.heap.size = w.heap.size + 1 := by omega
 have bN : ¬ w.heap.size + 1 = w1.heap.size := by omega
 generalize w1.alloc (.cells #[.bool n0, .slice A1 l1 c1c, .slice A2 l2 c2c] 28) = w2 at *
 rw [Jar] at HC1
 refine HC1.out.mono ?_
 rintro e w3 ⟨rfl, cB⟩
 have b1 := b1.below cB b1.lt
 have bt := bt.below cB bt.lt
 clear aB aC aD
 obtain ⟨aB, aC, aD⟩ := b1.c3; obtain ⟨bO, bP, bQ⟩ := bt.c3
 have HC2 := lh (Jai q.den q.den _ _ _ _ w3 (HQ2.out.next zd cB).parts.2.2 (HQ1.out.next zd cB).parts.2.2 s2 s2)
 rw [Jar] at HC2
 clear HC1 HQ1 HQ2
 go_wp2_with fail
 refine HC2.out.mono ?_
 rintro e w4 ⟨rfl, o9⟩
 go_wp2
 go_ret
 exact ⟨rfl, Ja (Ja bM cB) o9⟩
