import Derived.Test.YtecnjlcfoobepaaGreatDoorRefQ
import Derived.Test.YtecnjlcfoobepaaGreatDoorHand
namespace Go.Proofs.YtecnjlcfoobepaaGreatDoor
set_option maxRecDepth 100000
set_option maxHeartbeats 1000000
open Go.RowKit
set_option linter.all false
theorem Jdl (a : Nat) (w : World) (ha : Je a <= 1099511627776) : Calls Tryz.prog 106 #[Jj a] w (Jb4 a w) := by
 have aO := fun w => Jga a w (by omega)
 unfold Jj at aO ⊢
 have HBT := lh aO
 clear aO
 have bI : Xf a <= 1099511627776 := by unfold Xf; omega
 obtain ⟨b0, hB, hZ⟩ := bx1 w 52 #[.int .u64 (lo a : Int), .string (mo a)]
 go_enter Tryz.func106, Tryz.ntmps106
 go_wp2_with fail
 generalize (w.alloc (.cells #[.int .u64 (lo a : Int), .string (mo a)] 52)) = W at *
 refine (HBT.out W).mono ?_
 rintro e w1 ⟨v1, rfl, aK, t8, _⟩
 obtain ⟨A, c, hv, bX, bY⟩ := aK.form
 rw [hv] at aK
 rw [hv]
 have hr := aK.reads
 have hl := Jep a
 rw [hl] at hr
 rw [hl]
 have aP := Joz A (Xf a) c w1.heap.size (Jdp a) w1 hr zd bI
 rw [Jb2] at aP
 have HF := lh aP
 clear hv hl hr aK aP
 go_wp2_with fail
 refine HF.out.mono ?_
 rintro e w2 ⟨v2, rfl, x9, y8⟩
 obtain ⟨A2, l2, c2c, rfl⟩ := x9.form
 go_wp2
 go_ret
 exact ⟨_, rfl, x9, Ja (Ja hB t8) y8⟩
theorem Jjo (z : Int) (w : World) (hz : Je z.natAbs <= 1099511627776) : Calls Tryz.prog 104 #[Qa z] w (Ja1 z w) := by
 have aQ := fun w => Yp z w (by omega)
 have aL := fun w => Uv z w
 have aB := fun w => Jdl z.natAbs w hz
 have aR : ∀ w' V, IsN w' w'.heap.size V z.natAbs -> Calls Tryz.prog 115 #[.bool (decide (z < 0)), V] w' (Ja1 z w') := fun w' V hv => by
  have h := Yi (decide (z < 0)) z.natAbs _ V w' hv zd
  have e : signed (decide (z < 0)) z.natAbs = z := by
   unfold signed
   by_cases h : z < 0
   ·rw [decide_eq_true h]; simp; omega
   rw [decide_eq_false h]; simp; omega
  rw [e] at h
  exact h
 have bD : decide (z < 0) = decide (z.sign < 0) := by
  by_cases h : z < 0
  ·rw [decide_eq_true h, Int.sign_eq_neg_one_of_neg h]; rfl
  have := Int.sign_nonneg_iff.2 (Int.not_lt.1 h)
  rw [decide_eq_false h, decide_eq_false (by omega)]
 rw [bD] at aR
 clear bD
 unfold Qa at aQ aL ⊢
 unfold Jj at aL aB
 generalize z.sign = sg at *
 generalize decide (z < 0) = ng at *
 have HSG := lh aQ
 have HAB := lh aL
 have HON := lh aB
 have HMK := lh aR
 clear aQ aL aB aR
 obtain ⟨b0, b1, hB, hZ⟩ := bx2 w 54 #[.bool ng, .int .u64 (lo z.natAbs : Int), .string (mo z.natAbs)] 68 #[.bool false, .slice none 0 0]
 have ne1 := neE w.heap.size
 have ne2 := neF w.heap.size
 go_enter Tryz.func104, Tryz.ntmps104
 go_upto_region 1 with fail
 generalize ((w.alloc (.cells #[.bool ng, .int .u64 (lo z.natAbs : Int), .string (mo z.natAbs)] 54)).alloc (.cells #[.bool false, .slice none 0 0] 68)) = W at *
 obtain ⟨aS, aT, aU⟩ := b0.c3; have c0 := b0.drew; have j9 := c0.lt; have c1 := b1.drew; have o0 := c1.lt; have hc := Jf W; go_region_held3 (fun w' => w'.cell? ⟨w.heap.size, 0, none⟩ = some (.bool ng) /\ w'.cell? ⟨w.heap.size, 1, none⟩ = some (.int .u64 (lo z.natAbs : Int)) /\ w'.cell? ⟨w.heap.size, 2, none⟩ = some (.string (mo z.natAbs))) (go_keep) (first | (go_at_call 88; (with_reducible refine (HSG.out _).mono ?_); rintro e w1 ⟨rfl, t8⟩; (try clear j6 j7 j8); obtain ⟨c0, j6, j7, j8⟩ := c0.zc3 t8; (try clear j9); have j9 := c0.lt; have c1 := c1.below t8 c1.lt; (try clear o0); have o0 := c1.lt; have hc := Ja hc t8) | (go_at_call 110; (with_reducible refine (HAB.out _).mono ?_); rintro e w2 ⟨rfl, y8⟩; (try clear j6 j7 j8); obtain ⟨c0, j6, j7, j8⟩ := c0.zc3 y8; (try clear j9); have j9 := c0.lt; have c1 := c1.below y8 c1.lt; (try clear o0); have o0 := c1.lt; have hc := Ja hc y8) | (go_at_call 106; (with_reducible refine (HON.out _).mono ?_); rintro e w3 ⟨v3, rfl, aM, o5⟩; obtain ⟨A3, l3, c3c, bJ⟩ := aM.form; subst bJ; (try clear j6 j7 j8); obtain ⟨c0, j6, j7, j8⟩ := c0.zc3 o5; (try clear j9); have j9 := c0.lt; have c1 := c1.below o5 c1.lt; (try clear o0); have o0 := c1.lt; have hc := Ja hc o5) | (go_at_call 115; (with_reducible refine (HMK.out _ _ aM).mono ?_); rintro e w4 ⟨v4, rfl, aG, x8⟩; obtain ⟨g4, A4, l4, c4c, aV⟩ := aG.shape; subst aV; (try clear j6 j7 j8); obtain ⟨c0, j6, j7, j8⟩ := c0.zc3 x8; (try clear j9); have j9 := c0.lt; have c1 := c1.below x8 c1.lt; (try clear o0); have o0 := c1.lt; have aM := (aM.next zd x8).more x8.size; have hc := Ja hc x8; obtain ⟨aW, aX, aY, aZ, aC, aD⟩ := c1.f2))
 all_goals
  go_wp2
  refine bodyPost_ret (v := .agg #[.bool g4, .slice A4 l4 c4c]) (by simp [results, Tryz.results104, go_sem, aC, aD]) rfl ?_
  exact Zd hB hc aG c1 (by omega)
theorem Jpw (q : Rat) (w : World) (hq : QS 1099511627776 q) : Calls Tryz.prog 68 #[qV q] w (Vz q w) := by
 have y9 := fun w => Jp2 q w
 have aA := fun w => Kg q w hq
 have bA := fun w => Jjo q.num w hq.1
 have aB := fun w => Jdl q.den w hq.2
 unfold qV at y9 aA ⊢
 unfold Qa at y9 bA
 unfold Jj at aA aB
 clear hq
 generalize decide (q.num < 0) = nq at *
 have HNUM := lh y9
 have HDEN := lh aA
 have HOI := lh bA
 have HON := lh aB
 clear y9 aA bA aB
 obtain ⟨b0, b1, hB, hZ⟩ := bx2 w 56 #[.bool nq, .int .u64 (lo q.num.natAbs : Int), .string (mo q.num.natAbs), .int .u64 (lo (qden q) : Int), .string (mo (qden q))] 70 #[.bool false, .slice none 0 0, .slice none 0 0]
 have ne1 := neE w.heap.size
 have ne2 := neF w.heap.size
 go_enter Tryz.func68, Tryz.ntmps68
 go_upto_region 1 with fail
 generalize ((w.alloc (.cells #[.bool nq, .int .u64 (lo q.num.natAbs : Int), .string (mo q.num.natAbs), .int .u64 (lo (qden q) : Int), .string (mo (qden q))] 56)).alloc (.cells #[.bool false, .slice none 0 0, .slice none 0 0] 70)) = W at *
 obtain ⟨aS, aT, aU, bK, bL⟩ := b0.c5; have c0 := b0.drew; have j9 := c0.lt; have c1 := b1.drew; have o0 := c1.lt; have hc := Jf W; go_region_held3 (fun w' => w'.cell? ⟨w.heap.size, 0, none⟩ = some (.bool nq) /\ w'.cell? ⟨w.heap.size, 1, none⟩ = some (.int .u64 (lo q.num.natAbs : Int)) /\ w'.cell? ⟨w.heap.size, 2, none⟩ = some (.string (mo q.num.natAbs)) /\ w'.cell? ⟨w.heap.size, 3, none⟩ = some (.int .u64 (lo (qden q) : Int)) /\ w'.cell? ⟨w.heap.size, 4, none⟩ = some (.string (mo (qden q)))) (go_keep) (first | (go_at_call 105; (with_reducible refine (HNUM.out _).mono ?_); rintro e w1 ⟨rfl, t8⟩; (try clear j6 j7 j8 s9 t7); obtain ⟨c0, j6, j7, j8, s9, t7⟩ := c0.zc5 t8; (try clear j9); have j9 := c0.lt; have c1 := c1.below t8 c1.lt; (try clear o0); have o0 := c1.lt; have hc := Ja hc t8) | (go_at_call 104; (with_reducible refine (HOI.out _).mono ?_); rintro e w2 ⟨v2, rfl, x9, y8⟩; obtain ⟨g2, A2, l2, c2c, bM⟩ := x9.shape; subst bM; (try clear j6 j7 j8 s9 t7); obtain ⟨c0, j6, j7, j8, s9, t7⟩ := c0.zc5 y8; (try clear j9); have j9 := c0.lt; have c1 := c1.below y8 c1.lt; (try clear o0); have o0 := c1.lt; have hc := Ja hc y8) | (go_at_call 67; (with_reducible refine (HDEN.out _).mono ?_); rintro e w3 ⟨rfl, o5⟩; (try clear j6 j7 j8 s9 t7); obtain ⟨c0, j6, j7, j8, s9, t7⟩ := c0.zc5 o5; (try clear j9); have j9 := c0.lt; have c1 := c1.below o5 c1.lt; (try clear o0); have o0 := c1.lt; have x9 := (x9.next zd o5).more o5.size; have hc := Ja hc o5) | (go_at_call 106; (with_reducible refine (HON.out _).mono ?_); rintro e w4 ⟨v4, rfl, aG, x8⟩; obtain ⟨A4, l4, c4c, aV⟩ := aG.form; subst aV; (try clear j6 j7 j8 s9 t7); obtain ⟨c0, j6, j7, j8, s9, t7⟩ := c0.zc5 x8; (try clear j9); have j9 := c0.lt; have c1 := c1.below x8 c1.lt; (try clear o0); have o0 := c1.lt; have x9 := (x9.next zd x8).more x8.size; have hc := Ja hc x8; obtain ⟨aW, aX, bN, aY, aZ, bO, aC, aD, bB⟩ := c1.f3))
 all_goals
  go_wp2
  refine bodyPost_ret (v := .agg #[.bool g2, .slice A2 l2 c2c, .slice A4 l4 c4c]) (by simp [results, Tryz.results68, go_sem, aC, aD, bB]) rfl ?_
  exact Qj hB hc (IsQ.mk (q := q) x9 aG) c1 (by omega)
theorem Jc4 (q : Rat) (B : Nat) (V : Value) (w : World) (h : IsQ w B V q) (bE : B <= w.heap.size) (hq : QS 1099511627776 q) : Calls Tryz.prog 32 #[qV q, V] w (Ret (.bool true) w) := by
 obtain ⟨n0, A0, l0, c0c, A9, l9, c9c, rfl⟩ := h.shape
 have bF := h.parts.1
 have bG : l9 = (Jc q.den).length := by
  obtain ⟨A', c', h1, _⟩ := h.parts.2.2
  injection h1
 have bC := Ko q.den
 rw [<- bG] at bC
 have bP : ((l9 : Int) == 0) = false := by
  have := q.den_nz
  simp
  intro e
  exact this (bC.1 (by omega))
 have H := lh h
 have aN := fun w => Jpw q w hq
 have s1 : (Jc q.num.natAbs).length <= 34359738368 := Jar _ hq.1
 have s2 : (Jc q.den).length <= 34359738368 := Jar _ hq.2
 unfold qV at aN ⊢
 rw [bF] at aN ⊢
 have HOT := lh aN
 clear h aN hq bG bC
 obtain ⟨b0, b1, hB, hZ⟩ := bx2 w 56 #[.bool n0, .int .u64 (lo q.num.natAbs : Int), .string (mo q.num.natAbs), .int .u64 (lo (qden q) : Int), .string (mo (qden q))] 70 #[.bool n0, .slice A0 l0 c0c, .slice A9 l9 c9c]
 go_enter Tryz.func32, Tryz.ntmps32
 go_wp2_with fail
 generalize ((w.alloc (.cells #[.bool n0, .int .u64 (lo q.num.natAbs : Int), .string (mo q.num.natAbs), .int .u64 (lo (qden q) : Int), .string (mo (qden q))] 56)).alloc (.cells #[.bool n0, .slice A0 l0 c0c, .slice A9 l9 c9c] 70)) = W at *
 have h1 : IsQ W W.heap.size (.agg #[.bool n0, .slice A0 l0 c0c, .slice A9 l9 c9c]) q := (H.out.next bE hB).more (nt bE hB.size)
 clear H
 refine (HOT.out W).mono ?_
 rintro e w1 ⟨V1, rfl, aE, t8⟩
 obtain ⟨g1, A1, l1, c1c, A2, l2, c2c, rfl⟩ := aE.shape
 have bH := aE.parts.1
 rw [bF] at bH
 subst bH
 have b1 := b1.below t8 b1.lt
 have h1 := (h1.next zd t8).more t8.size
 have bQ := Ja hB t8
 have bR := b1.lt
 have bt := Blk.new w1 70 #[.bool n0, .slice A1 l1 c1c, .slice A2 l2 c2c]
 have b1 := b1.alloc (.cells #[.bool n0, .slice A1 l1 c1c, .slice A2 l2 c2c] 70)
 have aF := Jb w1 (.cells #[.bool n0, .slice A1 l1 c1c, .slice A2 l2 c2c] 70)
 have h1 := (h1.next zd aF).more aF.size
 have aE := (aE.next zd aF).more aF.size
 have bS := Ja bQ aF
 clear aF HOT b0
 have HC1 := lh (Jba q.num.natAbs q.num.natAbs _ _ _ _ _ aE.parts.2.1 h1.parts.2.1 s1 s1)
 have HQ1 := lh h1
 have HQ2 := lh aE
 clear h1 aE
 obtain ⟨aH, aI, aJ⟩ := b1.c3
 go_wp2_with fail
 have bZ : ¬ w1.heap.size = w.heap.size + 1 := by omega
 have bT : ¬ w.heap.size + 1 = w1.heap.size := by omega
 generalize w1.alloc (.cells #[.bool n0, .slice A1 l1 c1c, .slice A2 l2 c2c] 70) = w2 at *
 rw [Jcm] at HC1
 refine HC1.out.mono ?_
 rintro e w3 ⟨rfl, o5⟩
 have b1 := b1.below o5 b1.lt
 have bt := bt.below o5 bt.lt
 clear aH aI aJ
 obtain ⟨aH, aI, aJ⟩ := b1.c3; obtain ⟨bU, bV, bW⟩ := bt.c3
 have HC2 := lh (Jba q.den q.den _ _ _ _ w3 (HQ2.out.next zd o5).parts.2.2 (HQ1.out.next zd o5).parts.2.2 s2 s2)
 rw [Jcm] at HC2
 clear HC1 HQ1 HQ2
 go_wp2_with fail
 refine HC2.out.mono ?_
 rintro e w4 ⟨rfl, x8⟩
 go_wp2
 go_ret
 exact ⟨rfl, Ja (Ja bS o5) x8⟩
