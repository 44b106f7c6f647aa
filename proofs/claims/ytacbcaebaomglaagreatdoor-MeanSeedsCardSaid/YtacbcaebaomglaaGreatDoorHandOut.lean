import Derived.Test.YtacbcaebaomglaaGreatDoorRefQ
import Derived.Test.YtacbcaebaomglaaGreatDoorHand
namespace Go.Proofs.YtacbcaebaomglaaGreatDoor
set_option maxRecDepth 100000
set_option maxHeartbeats 1000000
open Go.RowKit
set_option linter.all false
theorem Jcx (a : Nat) (w : World) (ha : Je a <= 1099511627776) : Calls Tryz.prog 134 #[Jh a] w (Jbm a w) := by
 have aC := fun w => Jfi a w (by omega)
 unfold Jh at aC ⊢
 have HBT := lh aC
 clear aC
 have aW : Xb a <= 1099511627776 := by unfold Xb; omega
 obtain ⟨b0, hB, hZ⟩ := bx1 w 61 #[.int .u64 (lo a : Int), .string (mo a)]
 go_enter Tryz.func134, Tryz.ntmps134
 go_wp2_with fail
 generalize (w.alloc (.cells #[.int .u64 (lo a : Int), .string (mo a)] 61)) = W at *
 refine (HBT.out W).mono ?_
 rintro e w1 ⟨v1, rfl, y8, o6, _⟩
 obtain ⟨A, c, hv, bL, bM⟩ := y8.form
 rw [hv] at y8
 rw [hv]
 have hr := y8.reads
 have hl := Jdx a
 rw [hl] at hr
 rw [hl]
 have aD := Jlv A (Xb a) c w1.heap.size (Jc1 a) w1 hr zd aW
 rw [Jbk] at aD
 have HF := lh aD
 clear hv hl hr y8 aD
 go_wp2_with fail
 refine HF.out.mono ?_
 rintro e w2 ⟨v2, rfl, o8, o9⟩
 obtain ⟨A2, l2, c2c, rfl⟩ := o8.form
 go_wp2
 go_ret
 exact ⟨_, rfl, o8, Ja (Ja hB o6) o9⟩
theorem Jh9 (z : Int) (w : World) (hz : Je z.natAbs <= 1099511627776) : Calls Tryz.prog 132 #[Jx z] w (Jal z w) := by
 have aE := fun w => Yu z w (by omega)
 have y9 := fun w => Ur z w
 have p9 := fun w => Jcx z.natAbs w hz
 have aF : ∀ w' V, IsN w' w'.heap.size V z.natAbs -> Calls Tryz.prog 70 #[.bool (decide (z < 0)), V] w' (Jal z w') := fun w' V hv => by
  have h := Ym (decide (z < 0)) z.natAbs _ V w' hv zd
  have e : signed (decide (z < 0)) z.natAbs = z := by
   unfold signed
   by_cases h : z < 0
   ·rw [decide_eq_true h]; simp; omega
   rw [decide_eq_false h]; simp; omega
  rw [e] at h
  exact h
 have aR : decide (z < 0) = decide (z.sign < 0) := by
  by_cases h : z < 0
  ·rw [decide_eq_true h, Int.sign_eq_neg_one_of_neg h]; rfl
  have := Int.sign_nonneg_iff.2 (Int.not_lt.1 h)
  rw [decide_eq_false h, decide_eq_false (by omega)]
 rw [aR] at aF
 clear aR
 unfold Jx at aE y9 ⊢
 unfold Jh at y9 p9
 generalize z.sign = sg at *
 generalize decide (z < 0) = ng at *
 have HSG := lh aE
 have HAB := lh y9
 have HON := lh p9
 have HMK := lh aF
 clear aE y9 p9 aF
 obtain ⟨b0, b1, hB, hZ⟩ := bx2 w 63 #[.bool ng, .int .u64 (lo z.natAbs : Int), .string (mo z.natAbs)] 54 #[.bool false, .slice none 0 0]
 have ne1 := neE w.heap.size
 have ne2 := neF w.heap.size
 go_enter Tryz.func132, Tryz.ntmps132
 go_upto_region 1 with fail
 generalize ((w.alloc (.cells #[.bool ng, .int .u64 (lo z.natAbs : Int), .string (mo z.natAbs)] 63)).alloc (.cells #[.bool false, .slice none 0 0] 54)) = W at *
 obtain ⟨aG, aH, aI⟩ := b0.c3; have c0 := b0.drew; have j6 := c0.lt; have c1 := b1.drew; have j7 := c1.lt; have hc := Ji W; go_region_held3 (fun w' => w'.cell? ⟨w.heap.size, 0, none⟩ = some (.bool ng) /\ w'.cell? ⟨w.heap.size, 1, none⟩ = some (.int .u64 (lo z.natAbs : Int)) /\ w'.cell? ⟨w.heap.size, 2, none⟩ = some (.string (mo z.natAbs))) (go_keep) (first | (go_at_call 98; (with_reducible refine (HSG.out _).mono ?_); rintro e w1 ⟨rfl, o6⟩; (try clear e8 e9 j0); obtain ⟨c0, e8, e9, j0⟩ := c0.zc3 o6; (try clear j6); have j6 := c0.lt; have c1 := c1.below o6 c1.lt; (try clear j7); have j7 := c1.lt; have hc := Ja hc o6) | (go_at_call 114; (with_reducible refine (HAB.out _).mono ?_); rintro e w2 ⟨rfl, o9⟩; (try clear e8 e9 j0); obtain ⟨c0, e8, e9, j0⟩ := c0.zc3 o9; (try clear j6); have j6 := c0.lt; have c1 := c1.below o9 c1.lt; (try clear j7); have j7 := c1.lt; have hc := Ja hc o9) | (go_at_call 134; (with_reducible refine (HON.out _).mono ?_); rintro e w3 ⟨v3, rfl, aA, j8⟩; obtain ⟨A3, l3, c3c, aX⟩ := aA.form; subst aX; (try clear e8 e9 j0); obtain ⟨c0, e8, e9, j0⟩ := c0.zc3 j8; (try clear j6); have j6 := c0.lt; have c1 := c1.below j8 c1.lt; (try clear j7); have j7 := c1.lt; have hc := Ja hc j8) | (go_at_call 70; (with_reducible refine (HMK.out _ _ aA).mono ?_); rintro e w4 ⟨v4, rfl, u4, o7⟩; obtain ⟨g4, A4, l4, c4c, aJ⟩ := u4.shape; subst aJ; (try clear e8 e9 j0); obtain ⟨c0, e8, e9, j0⟩ := c0.zc3 o7; (try clear j6); have j6 := c0.lt; have c1 := c1.below o7 c1.lt; (try clear j7); have j7 := c1.lt; have aA := (aA.next zd o7).more o7.size; have hc := Ja hc o7; obtain ⟨aK, aL, aM, aN, q8, s9⟩ := c1.f2))
 all_goals
  go_wp2
  refine bodyPost_ret (v := .agg #[.bool g4, .slice A4 l4 c4c]) (by simp [results, Tryz.results132, go_sem, q8, s9]) rfl ?_
  exact Zh hB hc u4 c1 (by omega)
theorem Jmf (q : Rat) (w : World) (hq : QS 1099511627776 q) : Calls Tryz.prog 91 #[qV q] w (Jak q w) := by
 have p7 := fun w => Jmj q w
 have p8 := fun w => Kg q w hq
 have aO := fun w => Jh9 q.num w hq.1
 have p9 := fun w => Jcx q.den w hq.2
 unfold qV at p7 p8 ⊢
 unfold Jx at p7 aO
 unfold Jh at p8 p9
 clear hq
 generalize decide (q.num < 0) = nq at *
 have HNUM := lh p7
 have HDEN := lh p8
 have HOI := lh aO
 have HON := lh p9
 clear p7 p8 aO p9
 obtain ⟨b0, b1, hB, hZ⟩ := bx2 w 65 #[.bool nq, .int .u64 (lo q.num.natAbs : Int), .string (mo q.num.natAbs), .int .u64 (lo (qden q) : Int), .string (mo (qden q))] 56 #[.bool false, .slice none 0 0, .slice none 0 0]
 have ne1 := neE w.heap.size
 have ne2 := neF w.heap.size
 go_enter Tryz.func91, Tryz.ntmps91
 go_upto_region 1 with fail
 generalize ((w.alloc (.cells #[.bool nq, .int .u64 (lo q.num.natAbs : Int), .string (mo q.num.natAbs), .int .u64 (lo (qden q) : Int), .string (mo (qden q))] 65)).alloc (.cells #[.bool false, .slice none 0 0, .slice none 0 0] 56)) = W at *
 obtain ⟨aG, aH, aI, aY, aZ⟩ := b0.c5; have c0 := b0.drew; have j6 := c0.lt; have c1 := b1.drew; have j7 := c1.lt; have hc := Ji W; go_region_held3 (fun w' => w'.cell? ⟨w.heap.size, 0, none⟩ = some (.bool nq) /\ w'.cell? ⟨w.heap.size, 1, none⟩ = some (.int .u64 (lo q.num.natAbs : Int)) /\ w'.cell? ⟨w.heap.size, 2, none⟩ = some (.string (mo q.num.natAbs)) /\ w'.cell? ⟨w.heap.size, 3, none⟩ = some (.int .u64 (lo (qden q) : Int)) /\ w'.cell? ⟨w.heap.size, 4, none⟩ = some (.string (mo (qden q)))) (go_keep) (first | (go_at_call 133; (with_reducible refine (HNUM.out _).mono ?_); rintro e w1 ⟨rfl, o6⟩; (try clear e8 e9 j0 j9 o0); obtain ⟨c0, e8, e9, j0, j9, o0⟩ := c0.zc5 o6; (try clear j6); have j6 := c0.lt; have c1 := c1.below o6 c1.lt; (try clear j7); have j7 := c1.lt; have hc := Ja hc o6) | (go_at_call 132; (with_reducible refine (HOI.out _).mono ?_); rintro e w2 ⟨v2, rfl, o8, o9⟩; obtain ⟨g2, A2, l2, c2c, bA⟩ := o8.shape; subst bA; (try clear e8 e9 j0 j9 o0); obtain ⟨c0, e8, e9, j0, j9, o0⟩ := c0.zc5 o9; (try clear j6); have j6 := c0.lt; have c1 := c1.below o9 c1.lt; (try clear j7); have j7 := c1.lt; have hc := Ja hc o9) | (go_at_call 75; (with_reducible refine (HDEN.out _).mono ?_); rintro e w3 ⟨rfl, j8⟩; (try clear e8 e9 j0 j9 o0); obtain ⟨c0, e8, e9, j0, j9, o0⟩ := c0.zc5 j8; (try clear j6); have j6 := c0.lt; have c1 := c1.below j8 c1.lt; (try clear j7); have j7 := c1.lt; have o8 := (o8.next zd j8).more j8.size; have hc := Ja hc j8) | (go_at_call 134; (with_reducible refine (HON.out _).mono ?_); rintro e w4 ⟨v4, rfl, u4, o7⟩; obtain ⟨A4, l4, c4c, aJ⟩ := u4.form; subst aJ; (try clear e8 e9 j0 j9 o0); obtain ⟨c0, e8, e9, j0, j9, o0⟩ := c0.zc5 o7; (try clear j6); have j6 := c0.lt; have c1 := c1.below o7 c1.lt; (try clear j7); have j7 := c1.lt; have o8 := (o8.next zd o7).more o7.size; have hc := Ja hc o7; obtain ⟨aK, aL, bB, aM, aN, bC, q8, s9, aP⟩ := c1.f3))
 all_goals
  go_wp2
  refine bodyPost_ret (v := .agg #[.bool g2, .slice A2 l2 c2c, .slice A4 l4 c4c]) (by simp [results, Tryz.results91, go_sem, q8, s9, aP]) rfl ?_
  exact Zg hB hc (IsQ.mk (q := q) o8 u4) c1 (by omega)
theorem Jaz (q : Rat) (B : Nat) (V : Value) (w : World) (h : IsQ w B V q) (aS : B <= w.heap.size) (hq : QS 1099511627776 q) : Calls Tryz.prog 42 #[qV q, V] w (Ret (.bool true) w) := by
 obtain ⟨n0, A0, l0, c0c, A9, l9, c9c, rfl⟩ := h.shape
 have aT := h.parts.1
 have aU : l9 = (Jc q.den).length := by
  obtain ⟨A', c', h1, _⟩ := h.parts.2.2
  injection h1
 have aQ := Kn q.den
 rw [<- aU] at aQ
 have bD : ((l9 : Int) == 0) = false := by
  have := q.den_nz
  simp
  intro e
  exact this (aQ.1 (by omega))
 have H := lh h
 have aB := fun w => Jmf q w hq
 have s1 : (Jc q.num.natAbs).length <= 34359738368 := Jad _ hq.1
 have s2 : (Jc q.den).length <= 34359738368 := Jad _ hq.2
 unfold qV at aB ⊢
 rw [aT] at aB ⊢
 have HOT := lh aB
 clear h aB hq aU aQ
 obtain ⟨b0, b1, hB, hZ⟩ := bx2 w 65 #[.bool n0, .int .u64 (lo q.num.natAbs : Int), .string (mo q.num.natAbs), .int .u64 (lo (qden q) : Int), .string (mo (qden q))] 56 #[.bool n0, .slice A0 l0 c0c, .slice A9 l9 c9c]
 go_enter Tryz.func42, Tryz.ntmps42
 go_wp2_with fail
 generalize ((w.alloc (.cells #[.bool n0, .int .u64 (lo q.num.natAbs : Int), .string (mo q.num.natAbs), .int .u64 (lo (qden q) : Int), .string (mo (qden q))] 65)).alloc (.cells #[.bool n0, .slice A0 l0 c0c, .slice A9 l9 c9c] 56)) = W at *
 have h1 : IsQ W W.heap.size (.agg #[.bool n0, .slice A0 l0 c0c, .slice A9 l9 c9c]) q := (H.out.next aS hB).more (nt aS hB.size)
 clear H
 refine (HOT.out W).mono ?_
 rintro e w1 ⟨V1, rfl, t7, o6⟩
 obtain ⟨g1, A1, l1, c1c, A2, l2, c2c, rfl⟩ := t7.shape
 have aV := t7.parts.1
 rw [aT] at aV
 subst aV
 have b1 := b1.below o6 b1.lt
 have h1 := (h1.next zd o6).more o6.size
 have bE := Ja hB o6
 have bF := b1.lt
 have bt := Blk.new w1 56 #[.bool n0, .slice A1 l1 c1c, .slice A2 l2 c2c]
 have b1 := b1.alloc (.cells #[.bool n0, .slice A1 l1 c1c, .slice A2 l2 c2c] 56)
 have t8 := Jb w1 (.cells #[.bool n0, .slice A1 l1 c1c, .slice A2 l2 c2c] 56)
 have h1 := (h1.next zd t8).more t8.size
 have t7 := (t7.next zd t8).more t8.size
 have bG := Ja bE t8
 clear t8 HOT b0
 have HC1 := lh (Jav q.num.natAbs q.num.natAbs _ _ _ _ _ t7.parts.2.1 h1.parts.2.1 s1 s1)
 have HQ1 := lh h1
 have HQ2 := lh t7
 clear h1 t7
 obtain ⟨x7, x8, x9⟩ := b1.c3
 go_wp2_with fail
 have bN : ¬ w1.heap.size = w.heap.size + 1 := by omega
 have bH : ¬ w.heap.size + 1 = w1.heap.size := by omega
 generalize w1.alloc (.cells #[.bool n0, .slice A1 l1 c1c, .slice A2 l2 c2c] 56) = w2 at *
 rw [Jb4] at HC1
 refine HC1.out.mono ?_
 rintro e w3 ⟨rfl, j8⟩
 have b1 := b1.below j8 b1.lt
 have bt := bt.below j8 bt.lt
 clear x7 x8 x9
 obtain ⟨x7, x8, x9⟩ := b1.c3; obtain ⟨bI, bJ, bK⟩ := bt.c3
 have HC2 := lh (Jav q.den q.den _ _ _ _ w3 (HQ2.out.next zd j8).parts.2.2 (HQ1.out.next zd j8).parts.2.2 s2 s2)
 rw [Jb4] at HC2
 clear HC1 HQ1 HQ2
 go_wp2_with fail
 refine HC2.out.mono ?_
 rintro e w4 ⟨rfl, o7⟩
 go_wp2
 go_ret
 exact ⟨rfl, Ja (Ja bG j8) o7⟩
