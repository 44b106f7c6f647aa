import Derived.Test.YtacbcaebaomglaaGreatDoorRefMake
import Derived.Test.YtacbcaebaomglaaGreatDoorFracM
namespace Go.Proofs.YtacbcaebaomglaaGreatDoor
set_option maxRecDepth 100000
set_option maxHeartbeats 1000000
open Go.RowKit
set_option linter.all false
theorem oneN {W wn : World} {t : TypeId} {cs : Array Value} (hc : Below W.heap.size W wn) : Kr W t cs (.pointer (some ⟨wn.heap.size, 0, none⟩)) (wn.alloc (.cells cs t)) := ⟨_, rfl, hc.size, Blk.new _ _ _, Ja hc (Jb _ _)⟩
theorem Jfk (a B : Nat) (va : Value) (w : World) (h : IsN w B va a) (o0 : B <= w.heap.size) (ha : Je a <= 1099511627776) : Calls Tryz.prog 68 #[va] w (Ret (Jh a) w) := by
 have H1 := lh h
 clear h
 unfold Jh
 obtain ⟨b0, hB, hZ⟩ := bx1 w 61 #[.int .u64 0, .string ⟨#[]⟩]
 have aM : Qs a <= 1099511627776 := by unfold Qs; omega
 go_enter Tryz.func68, Tryz.ntmps68
 go_wp2_with fail
 generalize (w.alloc (.cells #[.int .u64 0, .string ⟨#[]⟩] 61)) = W at *
 refine (Jho a B va W (H1.out.next o0 hB) (nt o0 hB.size) ha).mono ?_
 rintro e w1 ⟨v1, rfl, u4, j7, _⟩
 obtain ⟨A, c, hv, cC, cD⟩ := u4.form
 rw [hv] at u4
 rw [hv]
 have hr := u4.reads
 have hl := Jbq a
 rw [hl] at hr
 rw [hl]
 have x8 := Ja hB j7
 have b0 := b0.below j7 b0.lt
 have u5 := Vl A (Qs a) c w1.heap.size (Ja7 a) w1 hr zd aM
 rw [Vv] at u5
 unfold Jh at u5
 have HF := lh u5
 clear hv hl hr u4 u5 j7 hB
 go_wp2_with fail
 refine HF.out.mono ?_
 rintro e w2 ⟨rfl, j9⟩
 have aN := Ja x8 j9
 (try clear o6 o7 x9 y8 p9 q8); obtain ⟨b0, o6, o7, x9, y8, p9, q8⟩ := b0.zf2 j9
 go_wp2
 refine bodyPost_ret (v := .agg #[.int .u64 (lo a : Int), .string (mo a)]) (by simp [results, Tryz.results68, go_sem, p9, q8]) rfl ?_
 exact ⟨rfl, Xg aN (by omega) _ _⟩
theorem Jjl (z : Int) (B : Nat) (V : Value) (w : World) (h : IsI w B V z) (o0 : B <= w.heap.size) (hz : Je z.natAbs <= 1099511627776) : Calls Tryz.prog 66 #[V] w (Ret (Js z) w) := by
 obtain ⟨v, rfl, hv⟩ := h
 have l5 := fun w => Qa (decide (z < 0)) z.natAbs w (by omega)
 have e : signed (decide (z < 0)) z.natAbs = z := by
  unfold signed
  by_cases h : z < 0
  ·rw [decide_eq_true h]; simp; omega
  rw [decide_eq_false h]; simp; omega
 rw [e] at l5
 clear e
 unfold Js at l5 ⊢
 unfold Jh at l5
 generalize decide (z < 0) = ng at *
 obtain ⟨A, l, c, hA⟩ := hv.form
 subst hA
 have HV := lh hv
 have HFR := lh l5
 clear hv l5
 obtain ⟨b0, b1, hB, hZ⟩ := bx2 w 54 #[.bool ng, .slice A l c] 63 #[.bool false, .int .u64 0, .string ⟨#[]⟩]
 have ne2 := neE w.heap.size
 have ne3 := neF w.heap.size
 go_enter Tryz.func66, Tryz.ntmps66
 go_wp2_with fail
 generalize ((w.alloc (.cells #[.bool ng, .slice A l c] 54)).alloc (.cells #[.bool false, .int .u64 0, .string ⟨#[]⟩] 63)) = W at *
 have aJ := HV.out.next o0 hB
 have o8 : B <= W.heap.size := nt o0 hB.size
 have y9 := fun w' (h : Below W.heap.size W w') => Jfk z.natAbs B (.slice A l c) w' (aJ.next o8 h) (nt o8 h.size) hz
 unfold Jh at y9
 have HNA := lh y9
 clear y9 aJ HV
 obtain ⟨o6, o7⟩ := b0.c2; have q9 := b0.lt; have c0 := b0.drew; have j8 := c0.lt; have c1 := b1.drew; have x7 := c1.lt; have hc := Jl W; go_region_held3 (fun w' => w'.cell? ⟨w.heap.size, 0, none⟩ = some (.bool ng) /\ w'.cell? ⟨w.heap.size, 1, none⟩ = some (.slice A l c)) (go_keep) (first | (go_at_call 68; (first | with_reducible refine (HNA.out _ hc).mono ?_ | with_reducible refine (HNA.out _ (Ja hc (Jb _ _))).mono ?_ | with_reducible refine (HNA.out _ (Ja hc (Ji _ _ _))).mono ?_ | with_reducible refine (HNA.out _ (Ja (Jb _ _) (Jl _))).mono ?_ | with_reducible refine (HNA.out _ (Ja (Ji _ _ _) (Jl _))).mono ?_); rintro e w1 ⟨rfl, j7⟩; (try clear e8 e9); obtain ⟨c0, e8, e9⟩ := c0.zc2 j7; (try clear j8); have j8 := c0.lt; have c1 := c1.yy j7; (try clear x7); have x7 := c1.lt; have hc := Ja hc j7) | (go_at_call 67; refine (HFR.out _).mono ?_; rintro e w2 ⟨rfl, j9⟩; (try clear e8 e9); obtain ⟨c0, e8, e9⟩ := c0.zc2 j9; (try clear j8); have j8 := c0.lt; have c1 := c1.yy j9; (try clear x7); have x7 := c1.lt; have hc := Ja hc j9; obtain ⟨aO, aP, aQ, aR, aS, aT, aA, aB, aC⟩ := c1.f3))
 all_goals
  go_wp2
  refine bodyPost_ret (v := .agg #[.bool ng, .int .u64 (lo z.natAbs : Int), .string (mo z.natAbs)]) (by simp [results, Tryz.results66, go_sem, aA, aB, aC]) rfl ?_
  exact ⟨rfl, Yf (Ja hB hc) (by omega) _ _ _⟩
theorem Jg4 (q : Rat) (B : Nat) (V : Value) (w : World) (h : IsQ w B V q) (o0 : B <= w.heap.size) (hq : QS 549755813888 q) (hT : Tab w) : Calls Tryz.prog 29 #[V] w (Ret (qV q) w) := by
 obtain ⟨vn, vd, rfl, hn, hd⟩ := h
 have l5 := fun w => Qa false q.den w (by have := hq.2; omega)
 have e : signed false q.den = (q.den : Int) := rfl
 rw [e] at l5
 clear e
 have p8 := fun w (hT : Tab w) => Jh3 q.num q.den w hq.1 (by rw [Int.natAbs_natCast]; exact hq.2) hT
 have e2 : Rat.divInt q.num q.den = q := Rat.num_divInt_den q
 have e3 : decide ((q.den : Int) ≠ 0) = true := decide_eq_true (by have := q.den_nz; omega)
 rw [e2, e3] at p8
 clear e2 e3
 obtain ⟨An, ln, cn, aU⟩ := hn.form
 obtain ⟨Ad, ld, cd, aV⟩ := hd.form
 subst aU
 subst aV
 have HN := lh hn
 have HD := lh hd
 have HQ := lh hq
 have HT := lh hT
 unfold Jh at l5
 unfold Js at l5 p8
 unfold qV at p8 ⊢
 rw [Int.natAbs_natCast] at l5 p8
 clear hn hd hq hT
 obtain ⟨b0, b1, hB, hZ⟩ := bx2 w 56 #[.bool (decide (q.num < 0)), .slice An ln cn, .slice Ad ld cd] 65 #[.bool false, .int .u64 0, .string ⟨#[]⟩, .int .u64 0, .string ⟨#[]⟩]
 go_enter Tryz.func29, Tryz.ntmps29
 go_upto_region 1 with fail
 generalize ((w.alloc (.cells #[.bool (decide (q.num < 0)), .slice An ln cn, .slice Ad ld cd] 56)).alloc (.cells #[.bool false, .int .u64 0, .string ⟨#[]⟩, .int .u64 0, .string ⟨#[]⟩] 65)) = W at *
 have o8 : B <= W.heap.size := nt o0 hB.size
 have aK := HN.out.next o0 hB
 have aL := HD.out.next o0 hB
 have o9 := fun w' (h : Below W.heap.size W w') => Jjl q.num B (.agg #[.bool (decide (q.num < 0)), .slice An ln cn]) w' ⟨_, rfl, aK.next o8 h⟩ (nt o8 h.size) (by have := HQ.out.1; omega)
 have p0 := fun w' (h : Below W.heap.size W w') => Jfk q.den B (.slice Ad ld cd) w' (aL.next o8 h) (nt o8 h.size) (by have := HQ.out.2; omega)
 have s9 := fun w' (h : Below W.heap.size W w') => p8 w' ((HT.out.next hB).next h)
 unfold Js at o9
 unfold Jh at p0
 generalize decide (q.num < 0) = nq at *
 generalize decide ((q.den : Int) < 0) = nd at *
 have HIN := lh o9
 have HNA := lh p0
 have HFR := lh l5
 have HMK := lh s9
 clear o9 p0 l5 p8 s9 aK aL HN HD
 go_cut [3] (fun v wc => Kr W 65 #[.bool nq, .int .u64 (lo q.num.natAbs : Int), .string (mo q.num.natAbs), .int .u64 (lo (qden q) : Int), .string (mo (qden q))] v wc)
 case first =>
  obtain ⟨o6, o7, aW⟩ := b0.c3; have q9 := b0.lt; have c0 := b0.drew; have j8 := c0.lt; have hc := Jl W; go_region_held3 (fun w' => w'.cell? ⟨w.heap.size, 0, none⟩ = some (.bool nq) /\ w'.cell? ⟨w.heap.size, 1, none⟩ = some (.slice An ln cn) /\ w'.cell? ⟨w.heap.size, 2, none⟩ = some (.slice Ad ld cd)) (go_keep) (first | (go_at_call 66; (first | with_reducible refine (HIN.out _ hc).mono ?_ | with_reducible refine (HIN.out _ (Ja hc (Jb _ _))).mono ?_ | with_reducible refine (HIN.out _ (Ja hc (Ji _ _ _))).mono ?_ | with_reducible refine (HIN.out _ (Ja (Jb _ _) (Jl _))).mono ?_ | with_reducible refine (HIN.out _ (Ja (Ji _ _ _) (Jl _))).mono ?_); rintro e w1 ⟨rfl, j7⟩; (try clear e8 e9 j0); obtain ⟨c0, e8, e9, j0⟩ := c0.zc3 j7; (try clear j8); have j8 := c0.lt; (try have ca := ca.yy j7); (first | have hc := Ja hc j7 | (have j6 := Qp hc j7; obtain ⟨ca, l7, hc⟩ := j6) | (have j6 := Qx hc j7; obtain ⟨ca, l7, hc⟩ := j6)); (try have p7 := Jq q9 l7)) | (go_at_call 68; (first | with_reducible refine (HNA.out _ hc).mono ?_ | with_reducible refine (HNA.out _ (Ja hc (Jb _ _))).mono ?_ | with_reducible refine (HNA.out _ (Ja hc (Ji _ _ _))).mono ?_ | with_reducible refine (HNA.out _ (Ja (Jb _ _) (Jl _))).mono ?_ | with_reducible refine (HNA.out _ (Ja (Ji _ _ _) (Jl _))).mono ?_); rintro e w2 ⟨rfl, j9⟩; (try clear e8 e9 j0); obtain ⟨c0, e8, e9, j0⟩ := c0.zc3 j9; (try clear j8); have j8 := c0.lt; (try have ca := ca.yy j9); (first | have hc := Ja hc j9 | (have j6 := Qp hc j9; obtain ⟨ca, l7, hc⟩ := j6) | (have j6 := Qx hc j9; obtain ⟨ca, l7, hc⟩ := j6)); (try have p7 := Jq q9 l7)) | (go_at_call 67; refine (HFR.out _).mono ?_; rintro e w3 ⟨rfl, t7⟩; (try clear e8 e9 j0); obtain ⟨c0, e8, e9, j0⟩ := c0.zc3 t7; (try clear j8); have j8 := c0.lt; (try have ca := ca.yy t7); (first | have hc := Ja hc t7 | (have j6 := Qp hc t7; obtain ⟨ca, l7, hc⟩ := j6) | (have j6 := Qx hc t7; obtain ⟨ca, l7, hc⟩ := j6)); (try have p7 := Jq q9 l7)) | (go_at_call 65; (first | with_reducible refine (HMK.out _ hc).mono ?_ | with_reducible refine (HMK.out _ (Ja hc (Jb _ _))).mono ?_ | with_reducible refine (HMK.out _ (Ja hc (Ji _ _ _))).mono ?_ | with_reducible refine (HMK.out _ (Ja (Jb _ _) (Jl _))).mono ?_ | with_reducible refine (HMK.out _ (Ja (Ji _ _ _) (Jl _))).mono ?_); rintro e w4 ⟨rfl, t8⟩; (try clear e8 e9 j0); obtain ⟨c0, e8, e9, j0⟩ := c0.zc3 t8; (try clear j8); have j8 := c0.lt; (try have ca := ca.yy t8); (first | have hc := Ja hc t8 | (have j6 := Qp hc t8; obtain ⟨ca, l7, hc⟩ := j6) | (have j6 := Qx hc t8; obtain ⟨ca, l7, hc⟩ := j6)); (try have p7 := Jq q9 l7); (try (have cE := ca.lt; obtain ⟨aX, aY, aZ, bA, bB, bC, bD, bE, bF, bG, bH, bI, bJ, bK, bL⟩ := ca.f5))))
  all_goals
   go_wp2
   go_meet
   (first | with_reducible exact Jbo hc ca l7 | with_reducible exact oneN hc | with_reducible exact Jbo (Ja hc (Jb _ _)) (Blk.new _ _ _) hc.size)
 case rest =>
  obtain ⟨g, rfl, cF, b5, aD⟩ := hcut
  have b1 := b1.below aD b1.lt
  have x8 := Ja hB aD
  have bM : W.heap.size = w.heap.size + 1 + 1 := hZ.out
  have ne0 : ¬ g = w.heap.size + 1 := by omega
  have ne1 : ¬ w.heap.size + 1 = g := by omega
  clear bM
  clear HIN HNA HFR HMK aD b0
  obtain ⟨bN, bO, bP, bQ, bR⟩ := b5.c5
  obtain ⟨bS, bT, bU, bV, bW, bX, bY, bZ, cA, cB, aE, aF, aG, aH, aI⟩ := b1.f5
  go_wp2
  refine bodyPost_ret (v := .agg #[.bool nq, .int .u64 (lo q.num.natAbs : Int), .string (mo q.num.natAbs), .int .u64 (lo (qden q) : Int), .string (mo (qden q))]) (by simp [results, Tryz.results29, go_sem, aE, aF, aG, aH, aI]) rfl ?_
  exact ⟨rfl, Zf x8 (by omega) _ _ _ _ _⟩
