import Derived.Test.YtacbcaebaomglaaGreatDoorRefMake
import Derived.Test.YtacbcaebaomglaaGreatDoorFracM
namespace Go.Proofs.YtacbcaebaomglaaGreatDoor
set_option maxRecDepth 100000
set_option maxHeartbeats 1000000
open Go.RowKit
set_option linter.all false
theorem oneN {W wn : World} {t : TypeId} {cs : Array Value} (hc : Below W.heap.size W wn) : Vr W t cs (.pointer (some ⟨wn.heap.size, 0, none⟩)) (wn.alloc (.cells cs t)) := ⟨_, rfl, hc.size, Blk.new _ _ _, Ja hc (Jb _ _)⟩
theorem Jia (a B : Nat) (va : Value) (w : World) (h : IsN w B va a) (o7 : B <= w.heap.size) (ha : Je a <= 1099511627776) : Calls Tryz.prog 68 #[va] w (Ret (Jh a) w) := by
 have H1 := lh h
 clear h
 unfold Jh
 obtain ⟨b0, hB, hZ⟩ := bx1 w 61 #[.int .u64 0, .string ⟨#[]⟩]
 have aR : Xb a <= 1099511627776 := by unfold Xb; omega
 go_enter Tryz.func68, Tryz.ntmps68
 go_wp2_with fail
 generalize (w.alloc (.cells #[.int .u64 0, .string ⟨#[]⟩] 61)) = W at *
 refine (Jkp a B va W (H1.out.next o7 hB) (nt o7 hB.size) ha).mono ?_
 rintro e w1 ⟨v1, rfl, y8, j7, _⟩
 obtain ⟨A, c, hv, cH, cI⟩ := y8.form
 rw [hv] at y8
 rw [hv]
 have hr := y8.reads
 have hl := Jdx a
 rw [hl] at hr
 rw [hl]
 have aB := Ja hB j7
 have b0 := b0.below j7 b0.lt
 have y9 := Ja7 A (Xb a) c w1.heap.size (Jc1 a) w1 hr zd aR
 rw [Jbk] at y9
 unfold Jh at y9
 have HF := lh y9
 clear hv hl hr y8 y9 j7 hB
 go_wp2_with fail
 refine HF.out.mono ?_
 rintro e w2 ⟨rfl, j9⟩
 have aS := Ja aB j9
 (try clear o8 o9 aC aD t7 t8); obtain ⟨b0, o8, o9, aC, aD, t7, t8⟩ := b0.zf2 j9
 go_wp2
 refine bodyPost_ret (v := .agg #[.int .u64 (lo a : Int), .string (mo a)]) (by simp [results, Tryz.results68, go_sem, t7, t8]) rfl ?_
 exact ⟨rfl, Za aS (by omega) _ _⟩
theorem Jmg (z : Int) (B : Nat) (V : Value) (w : World) (h : IsI w B V z) (o7 : B <= w.heap.size) (hz : Je z.natAbs <= 1099511627776) : Calls Tryz.prog 66 #[V] w (Ret (Jx z) w) := by
 obtain ⟨v, rfl, hv⟩ := h
 have o0 := fun w => Qc (decide (z < 0)) z.natAbs w (by omega)
 have e : signed (decide (z < 0)) z.natAbs = z := by
  unfold signed
  by_cases h : z < 0
  ·rw [decide_eq_true h]; simp; omega
  rw [decide_eq_false h]; simp; omega
 rw [e] at o0
 clear e
 unfold Jx at o0 ⊢
 unfold Jh at o0
 generalize decide (z < 0) = ng at *
 obtain ⟨A, l, c, hA⟩ := hv.form
 subst hA
 have HV := lh hv
 have HFR := lh o0
 clear hv o0
 obtain ⟨b0, b1, hB, hZ⟩ := bx2 w 54 #[.bool ng, .slice A l c] 63 #[.bool false, .int .u64 0, .string ⟨#[]⟩]
 have ne2 := neE w.heap.size
 have ne3 := neF w.heap.size
 go_enter Tryz.func66, Tryz.ntmps66
 go_wp2_with fail
 generalize ((w.alloc (.cells #[.bool ng, .slice A l c] 54)).alloc (.cells #[.bool false, .int .u64 0, .string ⟨#[]⟩] 63)) = W at *
 have aO := HV.out.next o7 hB
 have p7 : B <= W.heap.size := nt o7 hB.size
 have aE := fun w' (h : Below W.heap.size W w') => Jia z.natAbs B (.slice A l c) w' (aO.next p7 h) (nt p7 h.size) hz
 unfold Jh at aE
 have HNA := lh aE
 clear aE aO HV
 obtain ⟨o8, o9⟩ := b0.c2; have u4 := b0.lt; have c0 := b0.drew; have j8 := c0.lt; have c1 := b1.drew; have aA := c1.lt; have hc := Ji W; go_region_held3 (fun w' => w'.cell? ⟨w.heap.size, 0, none⟩ = some (.bool ng) /\ w'.cell? ⟨w.heap.size, 1, none⟩ = some (.slice A l c)) (go_keep) (first | (go_at_call 68; (first | with_reducible refine (HNA.out _ hc).mono ?_ | with_reducible refine (HNA.out _ (Ja hc (Jb _ _))).mono ?_ | with_reducible refine (HNA.out _ (Ja hc (Jj _ _ _))).mono ?_ | with_reducible refine (HNA.out _ (Ja (Jb _ _) (Ji _))).mono ?_ | with_reducible refine (HNA.out _ (Ja (Jj _ _ _) (Ji _))).mono ?_); rintro e w1 ⟨rfl, j7⟩; (try clear e8 e9); obtain ⟨c0, e8, e9⟩ := c0.zc2 j7; (try clear j8); have j8 := c0.lt; have c1 := c1.yy j7; (try clear aA); have aA := c1.lt; have hc := Ja hc j7) | (go_at_call 67; refine (HFR.out _).mono ?_; rintro e w2 ⟨rfl, j9⟩; (try clear e8 e9); obtain ⟨c0, e8, e9⟩ := c0.zc2 j9; (try clear j8); have j8 := c0.lt; have c1 := c1.yy j9; (try clear aA); have aA := c1.lt; have hc := Ja hc j9; obtain ⟨aT, aU, aV, aW, aX, aY, aF, aG, aH⟩ := c1.f3))
 all_goals
  go_wp2
  refine bodyPost_ret (v := .agg #[.bool ng, .int .u64 (lo z.natAbs : Int), .string (mo z.natAbs)]) (by simp [results, Tryz.results66, go_sem, aF, aG, aH]) rfl ?_
  exact ⟨rfl, Ki (Ja hB hc) (by omega) _ _ _⟩
theorem Jnn (q : Rat) (B : Nat) (V : Value) (w : World) (h : IsQ w B V q) (o7 : B <= w.heap.size) (hq : QS 549755813888 q) (hT : Tab w) : Calls Tryz.prog 29 #[V] w (Ret (qV q) w) := by
 obtain ⟨vn, vd, rfl, hn, hd⟩ := h
 have o0 := fun w => Qc false q.den w (by have := hq.2; omega)
 have e : signed false q.den = (q.den : Int) := rfl
 rw [e] at o0
 clear e
 have s9 := fun w (hT : Tab w) => Jk3 q.num q.den w hq.1 (by rw [Int.natAbs_natCast]; exact hq.2) hT
 have e2 : Rat.divInt q.num q.den = q := Rat.num_divInt_den q
 have e3 : decide ((q.den : Int) ≠ 0) = true := decide_eq_true (by have := q.den_nz; omega)
 rw [e2, e3] at s9
 clear e2 e3
 obtain ⟨An, ln, cn, aZ⟩ := hn.form
 obtain ⟨Ad, ld, cd, bA⟩ := hd.form
 subst aZ
 subst bA
 have HN := lh hn
 have HD := lh hd
 have HQ := lh hq
 have HT := lh hT
 unfold Jh at o0
 unfold Jx at o0 s9
 unfold qV at s9 ⊢
 rw [Int.natAbs_natCast] at o0 s9
 clear hn hd hq hT
 obtain ⟨b0, b1, hB, hZ⟩ := bx2 w 56 #[.bool (decide (q.num < 0)), .slice An ln cn, .slice Ad ld cd] 65 #[.bool false, .int .u64 0, .string ⟨#[]⟩, .int .u64 0, .string ⟨#[]⟩]
 go_enter Tryz.func29, Tryz.ntmps29
 go_upto_region 1 with fail
 generalize ((w.alloc (.cells #[.bool (decide (q.num < 0)), .slice An ln cn, .slice Ad ld cd] 56)).alloc (.cells #[.bool false, .int .u64 0, .string ⟨#[]⟩, .int .u64 0, .string ⟨#[]⟩] 65)) = W at *
 have p7 : B <= W.heap.size := nt o7 hB.size
 have aP := HN.out.next o7 hB
 have aQ := HD.out.next o7 hB
 have p8 := fun w' (h : Below W.heap.size W w') => Jmg q.num B (.agg #[.bool (decide (q.num < 0)), .slice An ln cn]) w' ⟨_, rfl, aP.next p7 h⟩ (nt p7 h.size) (by have := HQ.out.1; omega)
 have p9 := fun w' (h : Below W.heap.size W w') => Jia q.den B (.slice Ad ld cd) w' (aQ.next p7 h) (nt p7 h.size) (by have := HQ.out.2; omega)
 have x7 := fun w' (h : Below W.heap.size W w') => s9 w' ((HT.out.next hB).next h)
 unfold Jx at p8
 unfold Jh at p9
 generalize decide (q.num < 0) = nq at *
 generalize decide ((q.den : Int) < 0) = nd at *
 have HIN := lh p8
 have HNA := lh p9
 have HFR := lh o0
 have HMK := lh x7
 clear p8 p9 o0 s9 x7 aP aQ HN HD
 go_cut [3] (fun v wc => Vr W 65 #[.bool nq, .int .u64 (lo q.num.natAbs : Int), .string (mo q.num.natAbs), .int .u64 (lo (qden q) : Int), .string (mo (qden q))] v wc)
 case first =>
  obtain ⟨o8, o9, bB⟩ := b0.c3; have u4 := b0.lt; have c0 := b0.drew; have j8 := c0.lt; have hc := Ji W; go_region_held3 (fun w' => w'.cell? ⟨w.heap.size, 0, none⟩ = some (.bool nq) /\ w'.cell? ⟨w.heap.size, 1, none⟩ = some (.slice An ln cn) /\ w'.cell? ⟨w.heap.size, 2, none⟩ = some (.slice Ad ld cd)) (go_keep) (first | (go_at_call 66; (first | with_reducible refine (HIN.out _ hc).mono ?_ | with_reducible refine (HIN.out _ (Ja hc (Jb _ _))).mono ?_ | with_reducible refine (HIN.out _ (Ja hc (Jj _ _ _))).mono ?_ | with_reducible refine (HIN.out _ (Ja (Jb _ _) (Ji _))).mono ?_ | with_reducible refine (HIN.out _ (Ja (Jj _ _ _) (Ji _))).mono ?_); rintro e w1 ⟨rfl, j7⟩; (try clear e8 e9 j0); obtain ⟨c0, e8, e9, j0⟩ := c0.zc3 j7; (try clear j8); have j8 := c0.lt; (try have ca := ca.yy j7); (first | have hc := Ja hc j7 | (have j6 := Qy hc j7; obtain ⟨ca, o6, hc⟩ := j6) | (have j6 := Xg hc j7; obtain ⟨ca, o6, hc⟩ := j6)); (try have q8 := Jv u4 o6)) | (go_at_call 68; (first | with_reducible refine (HNA.out _ hc).mono ?_ | with_reducible refine (HNA.out _ (Ja hc (Jb _ _))).mono ?_ | with_reducible refine (HNA.out _ (Ja hc (Jj _ _ _))).mono ?_ | with_reducible refine (HNA.out _ (Ja (Jb _ _) (Ji _))).mono ?_ | with_reducible refine (HNA.out _ (Ja (Jj _ _ _) (Ji _))).mono ?_); rintro e w2 ⟨rfl, j9⟩; (try clear e8 e9 j0); obtain ⟨c0, e8, e9, j0⟩ := c0.zc3 j9; (try clear j8); have j8 := c0.lt; (try have ca := ca.yy j9); (first | have hc := Ja hc j9 | (have j6 := Qy hc j9; obtain ⟨ca, o6, hc⟩ := j6) | (have j6 := Xg hc j9; obtain ⟨ca, o6, hc⟩ := j6)); (try have q8 := Jv u4 o6)) | (go_at_call 67; refine (HFR.out _).mono ?_; rintro e w3 ⟨rfl, x8⟩; (try clear e8 e9 j0); obtain ⟨c0, e8, e9, j0⟩ := c0.zc3 x8; (try clear j8); have j8 := c0.lt; (try have ca := ca.yy x8); (first | have hc := Ja hc x8 | (have j6 := Qy hc x8; obtain ⟨ca, o6, hc⟩ := j6) | (have j6 := Xg hc x8; obtain ⟨ca, o6, hc⟩ := j6)); (try have q8 := Jv u4 o6)) | (go_at_call 65; (first | with_reducible refine (HMK.out _ hc).mono ?_ | with_reducible refine (HMK.out _ (Ja hc (Jb _ _))).mono ?_ | with_reducible refine (HMK.out _ (Ja hc (Jj _ _ _))).mono ?_ | with_reducible refine (HMK.out _ (Ja (Jb _ _) (Ji _))).mono ?_ | with_reducible refine (HMK.out _ (Ja (Jj _ _ _) (Ji _))).mono ?_); rintro e w4 ⟨rfl, x9⟩; (try clear e8 e9 j0); obtain ⟨c0, e8, e9, j0⟩ := c0.zc3 x9; (try clear j8); have j8 := c0.lt; (try have ca := ca.yy x9); (first | have hc := Ja hc x9 | (have j6 := Qy hc x9; obtain ⟨ca, o6, hc⟩ := j6) | (have j6 := Xg hc x9; obtain ⟨ca, o6, hc⟩ := j6)); (try have q8 := Jv u4 o6); (try (have cJ := ca.lt; obtain ⟨bC, bD, bE, bF, bG, bH, bI, bJ, bK, bL, bM, bN, bO, bP, bQ⟩ := ca.f5))))
  all_goals
   go_wp2
   go_meet
   (first | with_reducible exact Jge hc ca o6 | with_reducible exact oneN hc | with_reducible exact Jge (Ja hc (Jb _ _)) (Blk.new _ _ _) hc.size)
 case rest =>
  obtain ⟨g, rfl, cK, b5, aI⟩ := hcut
  have b1 := b1.below aI b1.lt
  have aB := Ja hB aI
  have bR : W.heap.size = w.heap.size + 1 + 1 := hZ.out
  have ne0 : ¬ g = w.heap.size + 1 := by omega
  have ne1 : ¬ w.heap.size + 1 = g := by omega
  clear bR
  clear HIN HNA HFR HMK aI b0
  obtain ⟨bS, bT, bU, bV, bW⟩ := b5.c5
  obtain ⟨bX, bY, bZ, cA, cB, cC, cD, cE, cF, cG, aJ, aK, aL, aM, aN⟩ := b1.f5
  go_wp2
  refine bodyPost_ret (v := .agg #[.bool nq, .int .u64 (lo q.num.natAbs : Int), .string (mo q.num.natAbs), .int .u64 (lo (qden q) : Int), .string (mo (qden q))]) (by simp [results, Tryz.results29, go_sem, aJ, aK, aL, aM, aN]) rfl ?_
  exact ⟨rfl, Yt aB (by omega) _ _ _ _ _⟩
