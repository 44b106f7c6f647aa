import Derived.Test.YtecnjlcfoobepaaGreatDoorRefMake
import Derived.Test.YtecnjlcfoobepaaGreatDoorFracM
namespace Go.Proofs.YtecnjlcfoobepaaGreatDoor
set_option maxRecDepth 100000
set_option maxHeartbeats 1000000
open Go.RowKit
set_option linter.all false
theorem Jso {W wn : World} {t : TypeId} {cs : Array Value} (hc : Below W.heap.size W wn) : Jb6 W t cs (.pointer (some ⟨wn.heap.size, 0, none⟩)) (wn.alloc (.cells cs t)) := ⟨_, rfl, hc.size, Blk.new _ _ _, Ja hc (Jb _ _)⟩
theorem Jjp (a B : Nat) (va : Value) (w : World) (h : IsN w B va a) (x8 : B <= w.heap.size) (ha : Je a <= 1099511627776) : Calls Tryz.prog 75 #[va] w (Ret (Jj a) w) := by
 have H1 := lh h
 clear h
 unfold Jj
 obtain ⟨b0, hB, hZ⟩ := bx1 w 52 #[.int .u64 0, .string ⟨#[]⟩]
 have bD : Xf a <= 1099511627776 := by unfold Xf; omega
 go_enter Tryz.func75, Tryz.ntmps75
 go_wp2_with fail
 generalize (w.alloc (.cells #[.int .u64 0, .string ⟨#[]⟩] 52)) = W at *
 refine (Jm7 a B va W (H1.out.next x8 hB) (nt x8 hB.size) ha).mono ?_
 rintro e w1 ⟨v1, rfl, aK, o0, _⟩
 obtain ⟨A, c, hv, cT, cU⟩ := aK.form
 rw [hv] at aK
 rw [hv]
 have hr := aK.reads
 have hl := Jep a
 rw [hl] at hr
 rw [hl]
 have aN := Ja hB o0
 have b0 := b0.below o0 b0.lt
 have aL := Jbo A (Xf a) c w1.heap.size (Jdp a) w1 hr zd bD
 rw [Jb2] at aL
 unfold Jj at aL
 have HF := lh aL
 clear hv hl hr aK aL o0 hB
 go_wp2_with fail
 refine HF.out.mono ?_
 rintro e w2 ⟨rfl, s9⟩
 have bE := Ja aN s9
 (try clear x9 y8 aO aP aE aF); obtain ⟨b0, x9, y8, aO, aP, aE, aF⟩ := b0.zf2 s9
 go_wp2
 refine bodyPost_ret (v := .agg #[.int .u64 (lo a : Int), .string (mo a)]) (by simp [results, Tryz.results75, go_sem, aE, aF]) rfl ?_
 exact ⟨rfl, Xz bE (by omega) _ _⟩
theorem Jpx (z : Int) (B : Nat) (V : Value) (w : World) (h : IsI w B V z) (x8 : B <= w.heap.size) (hz : Je z.natAbs <= 1099511627776) : Calls Tryz.prog 73 #[V] w (Ret (Qa z) w) := by
 obtain ⟨v, rfl, hv⟩ := h
 have t7 := fun w => Qh (decide (z < 0)) z.natAbs w (by omega)
 have e : signed (decide (z < 0)) z.natAbs = z := by
  unfold signed
  by_cases h : z < 0
  ·rw [decide_eq_true h]; simp; omega
  rw [decide_eq_false h]; simp; omega
 rw [e] at t7
 clear e
 unfold Qa at t7 ⊢
 unfold Jj at t7
 generalize decide (z < 0) = ng at *
 obtain ⟨A, l, c, hA⟩ := hv.form
 subst hA
 have HV := lh hv
 have HFR := lh t7
 clear hv t7
 obtain ⟨b0, b1, hB, hZ⟩ := bx2 w 68 #[.bool ng, .slice A l c] 54 #[.bool false, .int .u64 0, .string ⟨#[]⟩]
 have ne2 := neE w.heap.size
 have ne3 := neF w.heap.size
 go_enter Tryz.func73, Tryz.ntmps73
 go_wp2_with fail
 generalize ((w.alloc (.cells #[.bool ng, .slice A l c] 68)).alloc (.cells #[.bool false, .int .u64 0, .string ⟨#[]⟩] 54)) = W at *
 have bA := HV.out.next x8 hB
 have y9 : B <= W.heap.size := nt x8 hB.size
 have aQ := fun w' (h : Below W.heap.size W w') => Jjp z.natAbs B (.slice A l c) w' (bA.next y9 h) (nt y9 h.size) hz
 unfold Jj at aQ
 have HNA := lh aQ
 clear aQ bA HV
 obtain ⟨x9, y8⟩ := b0.c2; have aG := b0.lt; have c0 := b0.drew; have o5 := c0.lt; have c1 := b1.drew; have aM := c1.lt; have hc := Jf W; go_region_held3 (fun w' => w'.cell? ⟨w.heap.size, 0, none⟩ = some (.bool ng) /\ w'.cell? ⟨w.heap.size, 1, none⟩ = some (.slice A l c)) (go_keep) (first | (go_at_call 75; (first | with_reducible refine (HNA.out _ hc).mono ?_ | with_reducible refine (HNA.out _ (Ja hc (Jb _ _))).mono ?_ | with_reducible refine (HNA.out _ (Ja hc (Jl _ _ _))).mono ?_ | with_reducible refine (HNA.out _ (Ja (Jb _ _) (Jf _))).mono ?_ | with_reducible refine (HNA.out _ (Ja (Jl _ _ _) (Jf _))).mono ?_); rintro e w1 ⟨rfl, o0⟩; (try clear j6 j7); obtain ⟨c0, j6, j7⟩ := c0.zc2 o0; (try clear o5); have o5 := c0.lt; have c1 := c1.yy o0; (try clear aM); have aM := c1.lt; have hc := Ja hc o0) | (go_at_call 74; refine (HFR.out _).mono ?_; rintro e w2 ⟨rfl, s9⟩; (try clear j6 j7); obtain ⟨c0, j6, j7⟩ := c0.zc2 s9; (try clear o5); have o5 := c0.lt; have c1 := c1.yy s9; (try clear aM); have aM := c1.lt; have hc := Ja hc s9; obtain ⟨bF, bG, bH, bI, bJ, bK, aR, aS, aT⟩ := c1.f3))
 all_goals
  go_wp2
  refine bodyPost_ret (v := .agg #[.bool ng, .int .u64 (lo z.natAbs : Int), .string (mo z.natAbs)]) (by simp [results, Tryz.results73, go_sem, aR, aS, aT]) rfl ?_
  exact ⟨rfl, Kh (Ja hB hc) (by omega) _ _ _⟩
theorem Jmh (q : Rat) (B : Nat) (V : Value) (w : World) (h : IsQ w B V q) (x8 : B <= w.heap.size) (hq : QS 549755813888 q) (hT : Tab w) : Calls Tryz.prog 35 #[V] w (Ret (qV q) w) := by
 obtain ⟨vn, vd, rfl, hn, hd⟩ := h
 have t7 := fun w => Qh false q.den w (by have := hq.2; omega)
 have e : signed false q.den = (q.den : Int) := rfl
 rw [e] at t7
 clear e
 have aD := fun w (hT : Tab w) => Jn0 q.num q.den w hq.1 (by rw [Int.natAbs_natCast]; exact hq.2) hT
 have e2 : Rat.divInt q.num q.den = q := Rat.num_divInt_den q
 have e3 : decide ((q.den : Int) ≠ 0) = true := decide_eq_true (by have := q.den_nz; omega)
 rw [e2, e3] at aD
 clear e2 e3
 obtain ⟨An, ln, cn, bL⟩ := hn.form
 obtain ⟨Ad, ld, cd, bM⟩ := hd.form
 subst bL
 subst bM
 have HN := lh hn
 have HD := lh hd
 have HQ := lh hq
 have HT := lh hT
 unfold Jj at t7
 unfold Qa at t7 aD
 unfold qV at aD ⊢
 rw [Int.natAbs_natCast] at t7 aD
 clear hn hd hq hT
 obtain ⟨b0, b1, hB, hZ⟩ := bx2 w 70 #[.bool (decide (q.num < 0)), .slice An ln cn, .slice Ad ld cd] 56 #[.bool false, .int .u64 0, .string ⟨#[]⟩, .int .u64 0, .string ⟨#[]⟩]
 go_enter Tryz.func35, Tryz.ntmps35
 go_upto_region 1 with fail
 generalize ((w.alloc (.cells #[.bool (decide (q.num < 0)), .slice An ln cn, .slice Ad ld cd] 70)).alloc (.cells #[.bool false, .int .u64 0, .string ⟨#[]⟩, .int .u64 0, .string ⟨#[]⟩] 56)) = W at *
 have y9 : B <= W.heap.size := nt x8 hB.size
 have bB := HN.out.next x8 hB
 have bC := HD.out.next x8 hB
 have aA := fun w' (h : Below W.heap.size W w') => Jpx q.num B (.agg #[.bool (decide (q.num < 0)), .slice An ln cn]) w' ⟨_, rfl, bB.next y9 h⟩ (nt y9 h.size) (by have := HQ.out.1; omega)
 have aB := fun w' (h : Below W.heap.size W w') => Jjp q.den B (.slice Ad ld cd) w' (bC.next y9 h) (nt y9 h.size) (by have := HQ.out.2; omega)
 have aH := fun w' (h : Below W.heap.size W w') => aD w' ((HT.out.next hB).next h)
 unfold Qa at aA
 unfold Jj at aB
 generalize decide (q.num < 0) = nq at *
 generalize decide ((q.den : Int) < 0) = nd at *
 have HIN := lh aA
 have HNA := lh aB
 have HFR := lh t7
 have HMK := lh aH
 clear aA aB t7 aD aH bB bC HN HD
 go_cut [3] (fun v wc => Jb6 W 56 #[.bool nq, .int .u64 (lo q.num.natAbs : Int), .string (mo q.num.natAbs), .int .u64 (lo (qden q) : Int), .string (mo (qden q))] v wc)
 case first =>
  obtain ⟨x9, y8, bN⟩ := b0.c3; have aG := b0.lt; have c0 := b0.drew; have o5 := c0.lt; have hc := Jf W; go_region_held3 (fun w' => w'.cell? ⟨w.heap.size, 0, none⟩ = some (.bool nq) /\ w'.cell? ⟨w.heap.size, 1, none⟩ = some (.slice An ln cn) /\ w'.cell? ⟨w.heap.size, 2, none⟩ = some (.slice Ad ld cd)) (go_keep) (first | (go_at_call 73; (first | with_reducible refine (HIN.out _ hc).mono ?_ | with_reducible refine (HIN.out _ (Ja hc (Jb _ _))).mono ?_ | with_reducible refine (HIN.out _ (Ja hc (Jl _ _ _))).mono ?_ | with_reducible refine (HIN.out _ (Ja (Jb _ _) (Jf _))).mono ?_ | with_reducible refine (HIN.out _ (Ja (Jl _ _ _) (Jf _))).mono ?_); rintro e w1 ⟨rfl, o0⟩; (try clear j6 j7 j8); obtain ⟨c0, j6, j7, j8⟩ := c0.zc3 o0; (try clear o5); have o5 := c0.lt; (try have ca := ca.yy o0); (first | have hc := Ja hc o0 | (have j9 := Qg hc o0; obtain ⟨ca, t8, hc⟩ := j9) | (have j9 := Qo hc o0; obtain ⟨ca, t8, hc⟩ := j9)); (try have aC := Jo aG t8)) | (go_at_call 75; (first | with_reducible refine (HNA.out _ hc).mono ?_ | with_reducible refine (HNA.out _ (Ja hc (Jb _ _))).mono ?_ | with_reducible refine (HNA.out _ (Ja hc (Jl _ _ _))).mono ?_ | with_reducible refine (HNA.out _ (Ja (Jb _ _) (Jf _))).mono ?_ | with_reducible refine (HNA.out _ (Ja (Jl _ _ _) (Jf _))).mono ?_); rintro e w2 ⟨rfl, s9⟩; (try clear j6 j7 j8); obtain ⟨c0, j6, j7, j8⟩ := c0.zc3 s9; (try clear o5); have o5 := c0.lt; (try have ca := ca.yy s9); (first | have hc := Ja hc s9 | (have j9 := Qg hc s9; obtain ⟨ca, t8, hc⟩ := j9) | (have j9 := Qo hc s9; obtain ⟨ca, t8, hc⟩ := j9)); (try have aC := Jo aG t8)) | (go_at_call 74; refine (HFR.out _).mono ?_; rintro e w3 ⟨rfl, aI⟩; (try clear j6 j7 j8); obtain ⟨c0, j6, j7, j8⟩ := c0.zc3 aI; (try clear o5); have o5 := c0.lt; (try have ca := ca.yy aI); (first | have hc := Ja hc aI | (have j9 := Qg hc aI; obtain ⟨ca, t8, hc⟩ := j9) | (have j9 := Qo hc aI; obtain ⟨ca, t8, hc⟩ := j9)); (try have aC := Jo aG t8)) | (go_at_call 72; (first | with_reducible refine (HMK.out _ hc).mono ?_ | with_reducible refine (HMK.out _ (Ja hc (Jb _ _))).mono ?_ | with_reducible refine (HMK.out _ (Ja hc (Jl _ _ _))).mono ?_ | with_reducible refine (HMK.out _ (Ja (Jb _ _) (Jf _))).mono ?_ | with_reducible refine (HMK.out _ (Ja (Jl _ _ _) (Jf _))).mono ?_); rintro e w4 ⟨rfl, aJ⟩; (try clear j6 j7 j8); obtain ⟨c0, j6, j7, j8⟩ := c0.zc3 aJ; (try clear o5); have o5 := c0.lt; (try have ca := ca.yy aJ); (first | have hc := Ja hc aJ | (have j9 := Qg hc aJ; obtain ⟨ca, t8, hc⟩ := j9) | (have j9 := Qo hc aJ; obtain ⟨ca, t8, hc⟩ := j9)); (try have aC := Jo aG t8); (try (have cV := ca.lt; obtain ⟨bO, bP, bQ, bR, bS, bT, bU, bV, bW, bX, bY, bZ, cA, cB, cC⟩ := ca.f5))))
  all_goals
   go_wp2
   go_meet
   (first | with_reducible exact Ji2 hc ca t8 | with_reducible exact Jso hc | with_reducible exact Ji2 (Ja hc (Jb _ _)) (Blk.new _ _ _) hc.size)
 case rest =>
  obtain ⟨g, rfl, cZ, b5, aU⟩ := hcut
  have b1 := b1.below aU b1.lt
  have aN := Ja hB aU
  have cD : W.heap.size = w.heap.size + 1 + 1 := hZ.out
  have ne0 : ¬ g = w.heap.size + 1 := by omega
  have ne1 : ¬ w.heap.size + 1 = g := by omega
  clear cD
  clear HIN HNA HFR HMK aU b0
  obtain ⟨cE, cF, cG, cH, cI⟩ := b5.c5
  obtain ⟨cJ, cK, cL, cM, cN, cO, cP, cQ, cR, cS, aV, aW, aX, aY, aZ⟩ := b1.f5
  go_wp2
  refine bodyPost_ret (v := .agg #[.bool nq, .int .u64 (lo q.num.natAbs : Int), .string (mo q.num.natAbs), .int .u64 (lo (qden q) : Int), .string (mo (qden q))]) (by simp [results, Tryz.results35, go_sem, aV, aW, aX, aY, aZ]) rfl ?_
  exact ⟨rfl, Qy aN (by omega) _ _ _ _ _⟩
