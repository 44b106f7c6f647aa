import Derived.Test.YtacbcaebaomglaaGreatDoorRefQ
import Derived.Test.YtacbcaebaomglaaGreatDoorHand
namespace Go.Proofs.YtacbcaebaomglaaGreatDoor
set_option maxRecDepth 100000
set_option maxHeartbeats 1000000
open Go.RowKit
set_option linter.all false
theorem Ja3 (a : Nat) (w : World) (ha : Je a <= 1099511627776) : Calls Tryz.prog 134 #[Jh a] w (Jig a w) := by
 have x9 := fun w => Jc5 a w (by omega)
 unfold Jh at x9 ⊢
 have HBT := lh x9
 clear x9
 have aR : Qs a <= 1099511627776 := by unfold Qs; omega
 obtain ⟨b0, hB, hZ⟩ := bx1 w 61 #[.int .u64 (lo a : Int), .string (mo a)]
 go_enter Tryz.func134, Tryz.ntmps134
 go_wp2_with fail
 generalize (w.alloc (.cells #[.int .u64 (lo a : Int), .string (mo a)] 61)) = W at *
 refine (HBT.out W).mono ?_
 rintro e w1 ⟨v1, rfl, u4, l7, _⟩
 obtain ⟨A, c, hv, bG, bH⟩ := u4.form
 rw [hv] at u4
 rw [hv]
 have hr := u4.reads
 have hl := Jbq a
 rw [hl] at hr
 rw [hl]
 have y8 := Jiz A (Qs a) c w1.heap.size (Ja7 a) w1 hr zd aR
 rw [Vv] at y8
 have HF := lh y8
 clear hv hl hr u4 y8
 go_wp2_with fail
 refine HF.out.mono ?_
 rintro e w2 ⟨v2, rfl, o6, o7⟩
 obtain ⟨A2, l2, c2c, rfl⟩ := o6.form
 go_wp2
 go_ret
 exact ⟨_, rfl, o6, Ja (Ja hB l7) o7⟩
theorem Jfj (z : Int) (w : World) (hz : Je z.natAbs <= 1099511627776) : Calls Tryz.prog 132 #[Js z] w (Jgt z w) := by
 have y9 := fun w => Zl z w (by omega)
 have u5 := fun w => Kf z w
 have p0 := fun w => Ja3 z.natAbs w hz
 have aA : ∀ w' V, IsN w' w'.heap.size V z.natAbs -> Calls Tryz.prog 70 #[.bool (decide (z < 0)), V] w' (Jgt z w') := fun w' V hv => by
  have h := Jdx (decide (z < 0)) z.natAbs _ V w' hv zd
  have e : signed (decide (z < 0)) z.natAbs = z := by
   unfold signed
   by_cases h : z < 0
   ·rw [decide_eq_true h]; simp; omega
   rw [decide_eq_false h]; simp; omega
  rw [e] at h
  exact h
 have aM : decide (z < 0) = decide (z.sign < 0) := by
  by_cases h : z < 0
  ·rw [decide_eq_true h, Int.sign_eq_neg_one_of_neg h]; rfl
  have := Int.sign_nonneg_iff.2 (Int.not_lt.1 h)
  rw [decide_eq_false h, decide_eq_false (by omega)]
 rw [aM] at aA
 clear aM
 unfold Js at y9 u5 ⊢
 unfold Jh at u5 p0
 generalize z.sign = sg at *
 generalize decide (z < 0) = ng at *
 have HSG := lh y9
 have HAB := lh u5
 have HON := lh p0
 have HMK := lh aA
 clear y9 u5 p0 aA
 obtain ⟨b0, b1, hB, hZ⟩ := bx2 w 63 #[.bool ng, .int .u64 (lo z.natAbs : Int), .string (mo z.natAbs)] 54 #[.bool false, .slice none 0 0]
 have ne1 := neE w.heap.size
 have ne2 := neF w.heap.size
 go_enter Tryz.func132, Tryz.ntmps132
 go_upto_region 1 with fail
 generalize ((w.alloc (.cells #[.bool ng, .int .u64 (lo z.natAbs : Int), .string (mo z.natAbs)] 63)).alloc (.cells #[.bool false, .slice none 0 0] 54)) = W at *
 obtain ⟨aB, aC, aD⟩ := b0.c3; have c0 := b0.drew; have j6 := c0.lt; have c1 := b1.drew; have j7 := c1.lt; have hc := Jl W; go_region_held3 (fun w' => w'.cell? ⟨w.heap.size, 0, none⟩ = some (.bool ng) /\ w'.cell? ⟨w.heap.size, 1, none⟩ = some (.int .u64 (lo z.natAbs : Int)) /\ w'.cell? ⟨w.heap.size, 2, none⟩ = some (.string (mo z.natAbs))) (go_keep) (first | (go_at_call 98; (with_reducible refine (HSG.out _).mono ?_); rintro e w1 ⟨rfl, l7⟩; (try clear e8 e9 j0); obtain ⟨c0, e8, e9, j0⟩ := c0.zc3 l7; (try clear j6); have j6 := c0.lt; have c1 := c1.below l7 c1.lt; (try clear j7); have j7 := c1.lt; have hc := Ja hc l7) | (go_at_call 114; (with_reducible refine (HAB.out _).mono ?_); rintro e w2 ⟨rfl, o7⟩; (try clear e8 e9 j0); obtain ⟨c0, e8, e9, j0⟩ := c0.zc3 o7; (try clear j6); have j6 := c0.lt; have c1 := c1.below o7 c1.lt; (try clear j7); have j7 := c1.lt; have hc := Ja hc o7) | (go_at_call 134; (with_reducible refine (HON.out _).mono ?_); rintro e w3 ⟨v3, rfl, x7, j8⟩; obtain ⟨A3, l3, c3c, aS⟩ := x7.form; subst aS; (try clear e8 e9 j0); obtain ⟨c0, e8, e9, j0⟩ := c0.zc3 j8; (try clear j6); have j6 := c0.lt; have c1 := c1.below j8 c1.lt; (try clear j7); have j7 := c1.lt; have hc := Ja hc j8) | (go_at_call 70; (with_reducible refine (HMK.out _ _ x7).mono ?_); rintro e w4 ⟨v4, rfl, q9, o0⟩; obtain ⟨g4, A4, l4, c4c, aE⟩ := q9.shape; subst aE; (try clear e8 e9 j0); obtain ⟨c0, e8, e9, j0⟩ := c0.zc3 o0; (try clear j6); have j6 := c0.lt; have c1 := c1.below o0 c1.lt; (try clear j7); have j7 := c1.lt; have x7 := (x7.next zd o0).more o0.size; have hc := Ja hc o0; obtain ⟨aF, aG, aH, aI, p7, p8⟩ := c1.f2))
 all_goals
  go_wp2
  refine bodyPost_ret (v := .agg #[.bool g4, .slice A4 l4 c4c]) (by simp [results, Tryz.results132, go_sem, p7, p8]) rfl ?_
  exact Jas hB hc q9 c1 (by omega)
theorem Jjk (q : Rat) (w : World) (hq : QS 1099511627776 q) : Calls Tryz.prog 91 #[qV q] w (Jif q w) := by
 have o8 := fun w => Jjo q w
 have o9 := fun w => Zw q w hq
 have aJ := fun w => Jfj q.num w hq.1
 have p0 := fun w => Ja3 q.den w hq.2
 unfold qV at o8 o9 ⊢
 unfold Js at o8 aJ
 unfold Jh at o9 p0
 clear hq
 generalize decide (q.num < 0) = nq at *
 have HNUM := lh o8
 have HDEN := lh o9
 have HOI := lh aJ
 have HON := lh p0
 clear o8 o9 aJ p0
 obtain ⟨b0, b1, hB, hZ⟩ := bx2 w 65 #[.bool nq, .int .u64 (lo q.num.natAbs : Int), .string (mo q.num.natAbs), .int .u64 (lo (qden q) : Int), .string (mo (qden q))] 56 #[.bool false, .slice none 0 0, .slice none 0 0]
 have ne1 := neE w.heap.size
 have ne2 := neF w.heap.size
 go_enter Tryz.func91, Tryz.ntmps91
 go_upto_region 1 with fail
 generalize ((w.alloc (.cells #[.bool nq, .int .u64 (lo q.num.natAbs : Int), .string (mo q.num.natAbs), .int .u64 (lo (qden q) : Int), .string (mo (qden q))] 65)).alloc (.cells #[.bool false, .slice none 0 0, .slice none 0 0] 56)) = W at *
 obtain ⟨aB, aC, aD, aT, aU⟩ := b0.c5; have c0 := b0.drew; have j6 := c0.lt; have c1 := b1.drew; have j7 := c1.lt; have hc := Jl W; go_region_held3 (fun w' => w'.cell? ⟨w.heap.size, 0, none⟩ = some (.bool nq) /\ w'.cell? ⟨w.heap.size, 1, none⟩ = some (.int .u64 (lo q.num.natAbs : Int)) /\ w'.cell? ⟨w.heap.size, 2, none⟩ = some (.string (mo q.num.natAbs)) /\ w'.cell? ⟨w.heap.size, 3, none⟩ = some (.int .u64 (lo (qden q) : Int)) /\ w'.cell? ⟨w.heap.size, 4, none⟩ = some (.string (mo (qden q)))) (go_keep) (first | (go_at_call 133; (with_reducible refine (HNUM.out _).mono ?_); rintro e w1 ⟨rfl, l7⟩; (try clear e8 e9 j0 j9 l5); obtain ⟨c0, e8, e9, j0, j9, l5⟩ := c0.zc5 l7; (try clear j6); have j6 := c0.lt; have c1 := c1.below l7 c1.lt; (try clear j7); have j7 := c1.lt; have hc := Ja hc l7) | (go_at_call 132; (with_reducible refine (HOI.out _).mono ?_); rintro e w2 ⟨v2, rfl, o6, o7⟩; obtain ⟨g2, A2, l2, c2c, aV⟩ := o6.shape; subst aV; (try clear e8 e9 j0 j9 l5); obtain ⟨c0, e8, e9, j0, j9, l5⟩ := c0.zc5 o7; (try clear j6); have j6 := c0.lt; have c1 := c1.below o7 c1.lt; (try clear j7); have j7 := c1.lt; have hc := Ja hc o7) | (go_at_call 75; (with_reducible refine (HDEN.out _).mono ?_); rintro e w3 ⟨rfl, j8⟩; (try clear e8 e9 j0 j9 l5); obtain ⟨c0, e8, e9, j0, j9, l5⟩ := c0.zc5 j8; (try clear j6); have j6 := c0.lt; have c1 := c1.below j8 c1.lt; (try clear j7); have j7 := c1.lt; have o6 := (o6.next zd j8).more j8.size; have hc := Ja hc j8) | (go_at_call 134; (with_reducible refine (HON.out _).mono ?_); rintro e w4 ⟨v4, rfl, q9, o0⟩; obtain ⟨A4, l4, c4c, aE⟩ := q9.form; subst aE; (try clear e8 e9 j0 j9 l5); obtain ⟨c0, e8, e9, j0, j9, l5⟩ := c0.zc5 o0; (try clear j6); have j6 := c0.lt; have c1 := c1.below o0 c1.lt; (try clear j7); have j7 := c1.lt; have o6 := (o6.next zd o0).more o0.size; have hc := Ja hc o0; obtain ⟨aF, aG, aW, aH, aI, aX, p7, p8, aK⟩ := c1.f3))
 all_goals
  go_wp2
  refine bodyPost_ret (v := .agg #[.bool g2, .slice A2 l2 c2c, .slice A4 l4 c4c]) (by simp [results, Tryz.results91, go_sem, p7, p8, aK]) rfl ?_
  exact Va hB hc (IsQ.mk (q := q) o6 q9) c1 (by omega)
theorem Jh0 (q : Rat) (B : Nat) (V : Value) (w : World) (h : IsQ w B V q) (aN : B <= w.heap.size) (hq : QS 1099511627776 q) : Calls Tryz.prog 42 #[qV q, V] w (Ret (.bool true) w) := by
 obtain ⟨n0, A0, l0, c0c, A9, l9, c9c, rfl⟩ := h.shape
 have aO := h.parts.1
 have aP : l9 = (Jd q.den).length := by
  obtain ⟨A', c', h1, _⟩ := h.parts.2.2
  injection h1
 have aL := Km q.den
 rw [<- aP] at aL
 have aY : ((l9 : Int) == 0) = false := by
  have := q.den_nz
  simp
  intro e
  exact this (aL.1 (by omega))
 have H := lh h
 have x8 := fun w => Jjk q w hq
 have s1 : (Jd q.num.natAbs).length <= 34359738368 := Un _ hq.1
 have s2 : (Jd q.den).length <= 34359738368 := Un _ hq.2
 unfold qV at x8 ⊢
 rw [aO] at x8 ⊢
 have HOT := lh x8
 clear h x8 hq aP aL
 obtain ⟨b0, b1, hB, hZ⟩ := bx2 w 65 #[.bool n0, .int .u64 (lo q.num.natAbs : Int), .string (mo q.num.natAbs), .int .u64 (lo (qden q) : Int), .string (mo (qden q))] 56 #[.bool n0, .slice A0 l0 c0c, .slice A9 l9 c9c]
 go_enter Tryz.func42, Tryz.ntmps42
 go_wp2_with fail
 generalize ((w.alloc (.cells #[.bool n0, .int .u64 (lo q.num.natAbs : Int), .string (mo q.num.natAbs), .int .u64 (lo (qden q) : Int), .string (mo (qden q))] 65)).alloc (.cells #[.bool n0, .slice A0 l0 c0c, .slice A9 l9 c9c] 56)) = W at *
 have h1 : IsQ W W.heap.size (.agg #[.bool n0, .slice A0 l0 c0c, .slice A9 l9 c9c]) q := (H.out.next aN hB).more (nt aN hB.size)
 clear H
 refine (HOT.out W).mono ?_
 rintro e w1 ⟨V1, rfl, p9, l7⟩
 obtain ⟨g1, A1, l1, c1c, A2, l2, c2c, rfl⟩ := p9.shape
 have aQ := p9.parts.1
 rw [aO] at aQ
 subst aQ
 have b1 := b1.below l7 b1.lt
 have h1 := (h1.next zd l7).more l7.size
 have aZ := Ja hB l7
 have bA := b1.lt
 have bt := Blk.new w1 56 #[.bool n0, .slice A1 l1 c1c, .slice A2 l2 c2c]
 have b1 := b1.alloc (.cells #[.bool n0, .slice A1 l1 c1c, .slice A2 l2 c2c] 56)
 have q8 := Jb w1 (.cells #[.bool n0, .slice A1 l1 c1c, .slice A2 l2 c2c] 56)
 have h1 := (h1.next zd q8).more q8.size
 have p9 := (p9.next zd q8).more q8.size
 have bB := Ja aZ q8
 clear q8 HOT b0
 have HC1 := lh (Jab q.num.natAbs q.num.natAbs _ _ _ _ _ p9.parts.2.1 h1.parts.2.1 s1 s1)
 have HQ1 := lh h1
 have HQ2 := lh p9
 clear h1 p9
 obtain ⟨s9, t7, t8⟩ := b1.c3
 go_wp2_with fail
 have bI : ¬ w1.heap.size = w.heap.size + 1 := by omega
 have bC : ¬ w.heap.size + 1 = w1.heap.size := by omega
 generalize w1.alloc (.cells #[.bool n0, .slice A1 l1 c1c, .slice A2 l2 c2c] 56) = w2 at *
 rw [Jak] at HC1
 refine HC1.out.mono ?_
 rintro e w3 ⟨rfl, j8⟩
 have b1 := b1.below j8 b1.lt
 have bt := bt.below j8 bt.lt
 clear s9 t7 t8
 obtain ⟨s9, t7, t8⟩ := b1.c3; obtain ⟨bD, bE, bF⟩ := bt.c3
 have HC2 := lh (Jab q.den q.den _ _ _ _ w3 (HQ2.out.next zd j8).parts.2.2 (HQ1.out.next zd j8).parts.2.2 s2 s2)
 rw [Jak] at HC2
 clear HC1 HQ1 HQ2
 go_wp2_with fail
 refine HC2.out.mono ?_
 rintro e w4 ⟨rfl, o0⟩
 go_wp2
 go_ret
 exact ⟨rfl, Ja (Ja bB j8) o0⟩
