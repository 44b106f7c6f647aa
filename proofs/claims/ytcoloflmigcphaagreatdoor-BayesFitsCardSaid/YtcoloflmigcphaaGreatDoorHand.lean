import Derived.Test.YtcoloflmigcphaaGreatDoorRefMake
import Derived.Test.YtcoloflmigcphaaGreatDoorFracM
namespace Go.Proofs.YtcoloflmigcphaaGreatDoor
set_option maxRecDepth 100000
set_option maxHeartbeats 1000000
open Go.RowKit
set_option linter.all false
theorem oneN {W wn : World} {t : TypeId} {cs : Array Value} (hc : Below W.heap.size W wn) : Jdu W t cs (.pointer (some ⟨wn.heap.size, 0, none⟩)) (wn.alloc (.cells cs t)) := ⟨_, rfl, hc.size, Blk.new _ _ _, Ja hc (Jb _ _)⟩
theorem Jpu (a B : Nat) (va : Value) (w : World) (h : IsN w B va a) (p9 : B <= w.heap.size) (ha : Je a <= 1099511627776) : Calls Tryz.prog 54 #[va] w (Ret (Jg a) w) := by
 have H1 := lh h
 clear h
 unfold Jg
 obtain ⟨b0, hB, hZ⟩ := bx1 w 37 #[.int .u64 0, .string ⟨#[]⟩]
 have aZ : Xs a <= 1099511627776 := by unfold Xs; omega
 go_enter Tryz.func54, Tryz.ntmps54
 go_wp2_with fail
 generalize (w.alloc (.cells #[.int .u64 0, .string ⟨#[]⟩] 37)) = W at *
 refine (Jqj a B va W (H1.out.next p9 hB) (nt p9 hB.size) ha).mono ?_
 rintro e w1 ⟨v1, rfl, aG, j9, _⟩
 obtain ⟨A, c, hv, cR, cT⟩ := aG.form
 rw [hv] at aG
 rw [hv]
 have hr := aG.reads
 have hl := Jgs a
 rw [hl] at hr
 rw [hl]
 have aJ := Ja hB j9
 have b0 := b0.below j9 b0.lt
 have aH := Jdo A (Xs a) c w1.heap.size (Jgt a) w1 hr zd aZ
 rw [Jc6] at aH
 unfold Jg at aH
 have HF := lh aH
 clear hv hl hr aG aH j9 hB
 go_wp2_with fail
 refine HF.out.mono ?_
 rintro e w2 ⟨rfl, o0⟩
 have bA := Ja aJ o0
 (try clear dB dC aK aL aA aB); obtain ⟨b0, dB, dC, aK, aL, aA, aB⟩ := b0.zf2 o0
 go_wp2
 refine bodyPost_ret (v := .agg #[.int .u64 (lo a : Int), .string (mo a)]) (by simp [results, Tryz.results54, go_sem, aA, aB]) rfl ?_
 exact ⟨rfl, Xo bA (by omega) _ _⟩
theorem Jqy (z : Int) (B : Nat) (V : Value) (w : World) (h : IsI w B V z) (p9 : B <= w.heap.size) (hz : Je z.natAbs <= 1099511627776) : Calls Tryz.prog 52 #[V] w (Ret (Qj z) w) := by
 obtain ⟨v, rfl, hv⟩ := h
 have o9 := fun w => Qw (decide (z < 0)) z.natAbs w (by omega)
 have e : signed (decide (z < 0)) z.natAbs = z := by
  unfold signed
  by_cases h : z < 0
  ·rw [decide_eq_true h]; simp; omega
  rw [decide_eq_false h]; simp; omega
 rw [e] at o9
 clear e
 unfold Qj at o9 ⊢
 unfold Jg at o9
 generalize decide (z < 0) = ng at *
 obtain ⟨A, l, c, hA⟩ := hv.form
 subst hA
 have HV := lh hv
 have HFR := lh o9
 clear hv o9
 obtain ⟨b0, b1, hB, hZ⟩ := bx2 w 26 #[.bool ng, .slice A l c] 39 #[.bool false, .int .u64 0, .string ⟨#[]⟩]
 have ne2 := neE w.heap.size
 have ne3 := neF w.heap.size
 go_enter Tryz.func52, Tryz.ntmps52
 go_wp2_with fail
 generalize ((w.alloc (.cells #[.bool ng, .slice A l c] 26)).alloc (.cells #[.bool false, .int .u64 0, .string ⟨#[]⟩] 39)) = W at *
 have aW := HV.out.next p9 hB
 have s9 : B <= W.heap.size := nt p9 hB.size
 have aM := fun w' (h : Below W.heap.size W w') => Jpu z.natAbs B (.slice A l c) w' (aW.next s9 h) (nt s9 h.size) hz
 unfold Jg at aM
 have HNA := lh aM
 clear aM aW HV
 obtain ⟨dB, dC⟩ := b0.c2; have aC := b0.lt; have c0 := b0.drew; have dF := c0.lt; have c1 := b1.drew; have aI := c1.lt; have hc := Jt W; go_region_held3 (fun w' => w'.cell? ⟨w.heap.size, 0, none⟩ = some (.bool ng) /\ w'.cell? ⟨w.heap.size, 1, none⟩ = some (.slice A l c)) (go_keep) (first | ((first | (go_at_call 54; (first | with_reducible refine (HNA.out _ hc).mono ?_ | with_reducible refine (HNA.out _ (Ja hc (Jb _ _))).mono ?_ | with_reducible refine (HNA.out _ (Ja hc (Jo _ _ _))).mono ?_ | with_reducible refine (HNA.out _ (Ja (Jb _ _) (Jt _))).mono ?_ | with_reducible refine (HNA.out _ (Ja (Jo _ _ _) (Jt _))).mono ?_); rintro e w1 ⟨rfl, dA⟩) | (go_at_call 53; refine (HFR.out _).mono ?_; rintro e w2 ⟨rfl, dA⟩; have lst := True.intro)); (try clear j0 j6); obtain ⟨c0, j0, j6⟩ := c0.zc2 dA; (try clear dF); have dF := c0.lt; have c1 := c1.yy dA; (try clear aI); have aI := c1.lt; have hc := Ja hc dA; (try (clear lst; obtain ⟨bB, bC, bD, bE, bF, bG, aN, aO, aP⟩ := c1.f3))))
 all_goals
  go_wp2
  refine bodyPost_ret (v := .agg #[.bool ng, .int .u64 (lo z.natAbs : Int), .string (mo z.natAbs)]) (by simp [results, Tryz.results52, go_sem, aN, aO, aP]) rfl ?_
  exact ⟨rfl, Kw (Ja hB hc) (by omega) _ _ _⟩
theorem Jq2 (q : Rat) (B : Nat) (V : Value) (w : World) (h : IsQ w B V q) (p9 : B <= w.heap.size) (hq : QS 549755813888 q) (hT : Tab w) : Calls Tryz.prog 16 #[V] w (Ret (qV q) w) := by
 obtain ⟨vn, vd, rfl, hn, hd⟩ := h
 have o9 := fun w => Qw false q.den w (by have := hq.2; omega)
 have e : signed false q.den = (q.den : Int) := rfl
 rw [e] at o9
 clear e
 have y9 := fun w (hT : Tab w) => Jqn q.num q.den w hq.1 (by rw [Int.natAbs_natCast]; exact hq.2) hT
 have e2 : Rat.divInt q.num q.den = q := Rat.num_divInt_den q
 have e3 : decide ((q.den : Int) ≠ 0) = true := decide_eq_true (by have := q.den_nz; omega)
 rw [e2, e3] at y9
 clear e2 e3
 obtain ⟨An, ln, cn, bH⟩ := hn.form
 obtain ⟨Ad, ld, cd, bI⟩ := hd.form
 subst bH
 subst bI
 have HN := lh hn
 have HD := lh hd
 have HQ := lh hq
 have HT := lh hT
 unfold Jg at o9
 unfold Qj at o9 y9
 unfold qV at y9 ⊢
 rw [Int.natAbs_natCast] at o9 y9
 clear hn hd hq hT
 obtain ⟨b0, b1, hB, hZ⟩ := bx2 w 28 #[.bool (decide (q.num < 0)), .slice An ln cn, .slice Ad ld cd] 41 #[.bool false, .int .u64 0, .string ⟨#[]⟩, .int .u64 0, .string ⟨#[]⟩]
 go_enter Tryz.func16, Tryz.ntmps16
 go_upto_region 1 with fail
 generalize ((w.alloc (.cells #[.bool (decide (q.num < 0)), .slice An ln cn, .slice Ad ld cd] 28)).alloc (.cells #[.bool false, .int .u64 0, .string ⟨#[]⟩, .int .u64 0, .string ⟨#[]⟩] 41)) = W at *
 have s9 : B <= W.heap.size := nt p9 hB.size
 have aX := HN.out.next p9 hB
 have aY := HD.out.next p9 hB
 have dD := fun w' (h : Below W.heap.size W w') => Jqy q.num B (.agg #[.bool (decide (q.num < 0)), .slice An ln cn]) w' ⟨_, rfl, aX.next s9 h⟩ (nt s9 h.size) (by have := HQ.out.1; omega)
 have dE := fun w' (h : Below W.heap.size W w') => Jpu q.den B (.slice Ad ld cd) w' (aY.next s9 h) (nt s9 h.size) (by have := HQ.out.2; omega)
 have aD := fun w' (h : Below W.heap.size W w') => y9 w' ((HT.out.next hB).next h)
 unfold Qj at dD
 unfold Jg at dE
 generalize decide (q.num < 0) = nq at *
 generalize decide ((q.den : Int) < 0) = nd at *
 have HIN := lh dD
 have HNA := lh dE
 have HFR := lh o9
 have HMK := lh aD
 clear dD dE o9 y9 aD aX aY HN HD
 go_cut [3] (fun v wc => Jdu W 41 #[.bool nq, .int .u64 (lo q.num.natAbs : Int), .string (mo q.num.natAbs), .int .u64 (lo (qden q) : Int), .string (mo (qden q))] v wc)
 case first =>
  obtain ⟨dB, dC, bJ⟩ := b0.c3; have aC := b0.lt; have c0 := b0.drew; have dF := c0.lt; have hc := Jt W; go_region_held3 (fun w' => w'.cell? ⟨w.heap.size, 0, none⟩ = some (.bool nq) /\ w'.cell? ⟨w.heap.size, 1, none⟩ = some (.slice An ln cn) /\ w'.cell? ⟨w.heap.size, 2, none⟩ = some (.slice Ad ld cd)) (go_keep) (first | ((first | (go_at_call 52; (first | with_reducible refine (HIN.out _ hc).mono ?_ | with_reducible refine (HIN.out _ (Ja hc (Jb _ _))).mono ?_ | with_reducible refine (HIN.out _ (Ja hc (Jo _ _ _))).mono ?_ | with_reducible refine (HIN.out _ (Ja (Jb _ _) (Jt _))).mono ?_ | with_reducible refine (HIN.out _ (Ja (Jo _ _ _) (Jt _))).mono ?_); rintro e w1 ⟨rfl, dA⟩) | (go_at_call 54; (first | with_reducible refine (HNA.out _ hc).mono ?_ | with_reducible refine (HNA.out _ (Ja hc (Jb _ _))).mono ?_ | with_reducible refine (HNA.out _ (Ja hc (Jo _ _ _))).mono ?_ | with_reducible refine (HNA.out _ (Ja (Jb _ _) (Jt _))).mono ?_ | with_reducible refine (HNA.out _ (Ja (Jo _ _ _) (Jt _))).mono ?_); rintro e w2 ⟨rfl, dA⟩) | (go_at_call 53; refine (HFR.out _).mono ?_; rintro e w3 ⟨rfl, dA⟩) | (go_at_call 51; (first | with_reducible refine (HMK.out _ hc).mono ?_ | with_reducible refine (HMK.out _ (Ja hc (Jb _ _))).mono ?_ | with_reducible refine (HMK.out _ (Ja hc (Jo _ _ _))).mono ?_ | with_reducible refine (HMK.out _ (Ja (Jb _ _) (Jt _))).mono ?_ | with_reducible refine (HMK.out _ (Ja (Jo _ _ _) (Jt _))).mono ?_); rintro e w4 ⟨rfl, dA⟩; have lst := True.intro)); (try clear j0 j6 j7); obtain ⟨c0, j0, j6, j7⟩ := c0.zc3 dA; (try clear dF); have dF := c0.lt; (try have ca := ca.yy dA); (first | have hc := Ja hc dA | (have j8 := Xn hc dA; obtain ⟨ca, dG, hc⟩ := j8) | (have j8 := Xr hc dA; obtain ⟨ca, dG, hc⟩ := j8)); (try have dH := Jq aC dG); (try (clear lst; (try (have cU := ca.lt; obtain ⟨bK, bL, bM, bN, bO, bP, bQ, bR, bS, bT, bU, bV, bW, bX, bY⟩ := ca.f5))))))
  all_goals
   go_wp2
   go_meet
   (first | with_reducible exact Joc hc ca dG | with_reducible exact oneN hc | with_reducible exact Joc (Ja hc (Jb _ _)) (Blk.new _ _ _) hc.size)
 case rest =>
  obtain ⟨g, rfl, cZ, b5, aQ⟩ := hcut
  have b1 := b1.below aQ b1.lt
  have aJ := Ja hB aQ
  have bZ : W.heap.size = w.heap.size + 1 + 1 := hZ.out
  have ne0 : ¬ g = w.heap.size + 1 := by omega
  have ne1 : ¬ w.heap.size + 1 = g := by omega
  clear bZ
  clear HIN HNA HFR HMK aQ b0
  obtain ⟨cA, cB, cD, cE, cF⟩ := b5.c5
  obtain ⟨cG, cH, cI, cJ, cK, cL, cN, cO, cP, dI, aR, aS, aT, aU, aV⟩ := b1.f5
  go_wp2
  refine bodyPost_ret (v := .agg #[.bool nq, .int .u64 (lo q.num.natAbs : Int), .string (mo q.num.natAbs), .int .u64 (lo (qden q) : Int), .string (mo (qden q))]) (by simp [results, Tryz.results16, go_sem, aR, aS, aT, aU, aV]) rfl ?_
  exact ⟨rfl, Uy aJ (by omega) _ _ _ _ _⟩
