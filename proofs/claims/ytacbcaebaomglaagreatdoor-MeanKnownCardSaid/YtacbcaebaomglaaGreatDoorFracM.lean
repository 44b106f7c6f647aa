import Derived.Test.YtacbcaebaomglaaGreatDoorFracBase
import Derived.Test.YtacbcaebaomglaaGreatDoorGcdE
namespace Go.Proofs.YtacbcaebaomglaaGreatDoor
set_option maxRecDepth 100000
set_option maxHeartbeats 1000000
open Go.RowKit
set_option linter.all false
theorem Ja4 (n : Int) (d : Nat) (w : World) (hn : Je n.natAbs <= 549755813888) (hd : Je d <= 549755813888) (x9 : d ≠ 0) (hT : Tab w) :
  Calls Tryz.prog 113 #[Js n, Jh d] w (Ret (qV (mkRat n d)) w) := by
 have aB := fun w => Qa false d w (by omega)
 have e : signed false d = (d : Int) := rfl
 rw [e] at aB
 clear e
 have aC := fun w (hT : Tab w) => Ke n d w hn (by rw [Int.natAbs_natCast]; exact hd) hT
 rw [Int.natAbs_natCast] at aC
 have bJ := Nat.gcd_dvd_left n.natAbs d
 have bZ := Nat.gcd_dvd_right n.natAbs d
 have bK : Nat.gcd n.natAbs d ≠ 0 := fun h => x9 (Nat.gcd_eq_zero_iff.1 h).2
 have bL : (mkRat n d).num = n / (Nat.gcd n.natAbs d : Nat) := by rw [Rat.num_mkRat, if_neg x9, Nat.gcd_comm]
 have bM : (mkRat n d).den = d / Nat.gcd n.natAbs d := by rw [Rat.den_mkRat, if_neg x9, Nat.gcd_comm]
 have cA : QS 1099511627776 (mkRat n d) := ⟨by rw [bL]; exact nt (Vi bJ) (by omega), by rw [bM]; exact nt (Xr _ _) (by omega)⟩
 have cN : Je (Nat.gcd n.natAbs d) <= 549755813888 := nt (Jw (Nat.le_of_dvd (by omega) bZ)) hd
 generalize Nat.gcd n.natAbs d = G at *
 generalize mkRat n d = q at *
 have aF := fun w => Vf n G w (by omega) (by omega) bK bJ
 have bG := fun w => Zo d G w (by omega) (by omega) bK
 have aG := fun w => Vg q w cA
 rw [<- bL] at aF
 rw [<- bM] at bG
 clear bL bM bJ bZ bK cA
 unfold Jh at aB aC aF bG aG ⊢
 unfold Js at aB aC aF aG ⊢
 unfold qV at aG ⊢
 rw [Int.natAbs_natCast] at aB aC
 generalize decide (n < 0) = ng at *
 generalize decide (q.num < 0) = nq at *
 generalize decide ((d : Int) < 0) = nd at *
 have HFR := lh aB
 have HGC := lh aC
 have HPA := lh aF
 have HOV := lh bG
 have HPK := lh aG
 clear aB aC aF bG aG
 obtain ⟨b0, b1, b2, hB, hZ⟩ := bx3 w 63 #[.bool ng, .int .u64 (lo n.natAbs : Int), .string (mo n.natAbs)] 61 #[.int .u64 (lo d : Int), .string (mo d)] 65 #[.bool false, .int .u64 0, .string ⟨#[]⟩, .int .u64 0, .string ⟨#[]⟩]
 have tT := hT.next hB
 go_enter Tryz.func113, Tryz.ntmps113
 go_upto_region 1 with fail
 generalize (((w.alloc (.cells #[.bool ng, .int .u64 (lo n.natAbs : Int), .string (mo n.natAbs)] 63)).alloc (.cells #[.int .u64 (lo d : Int), .string (mo d)] 61)).alloc (.cells #[.bool false, .int .u64 0, .string ⟨#[]⟩, .int .u64 0, .string ⟨#[]⟩] 65)) = W at *
 go_cut [5] (fun v5 wc => Kr W 61 #[.int .u64 (lo G : Int), .string (mo G)] v5 wc)
 case first =>
  obtain ⟨j9, l5, l7⟩ := b0.c3; have aH := b0.lt; have c0 := b0.drew; have o7 := c0.lt; obtain ⟨o9, p0⟩ := b1.c2; have aI := b1.lt; have c1 := b1.drew; have o8 := c1.lt; have hc := Jl W; have tT : Tab W.drew := tT; go_region_held3 (fun w' => w'.cell? ⟨w.heap.size, 0, none⟩ = some (.bool ng) /\ w'.cell? ⟨w.heap.size, 1, none⟩ = some (.int .u64 (lo n.natAbs : Int)) /\ w'.cell? ⟨w.heap.size, 2, none⟩ = some (.string (mo n.natAbs)) /\ w'.cell? ⟨w.heap.size + 1, 0, none⟩ = some (.int .u64 (lo d : Int)) /\ w'.cell? ⟨w.heap.size + 1, 1, none⟩ = some (.string (mo d))) (go_keep) (first | (go_at_call 67; refine (HFR.out _).mono ?_; rintro e w1 ⟨rfl, j8⟩; (try clear e8 e9 j0); obtain ⟨c0, e8, e9, j0⟩ := c0.zc3 j8; (try clear o7); have o7 := c0.lt; (try clear j6 j7); obtain ⟨c1, j6, j7⟩ := c1.zc2 j8; (try clear o8); have o8 := c1.lt; (try have ca := ca.yy j8); (first | have tT := tT.next j8 | have tT := (tT.next (Jb _ _)).next j8 | have tT := (tT.next (Ji _ _ _)).next j8); (first | have hc := Ja hc j8 | (have o0 := Qp hc j8; obtain ⟨ca, aA, hc⟩ := o0) | (have o0 := Qx hc j8; obtain ⟨ca, aA, hc⟩ := o0)); (try have bN := Jq aH aA); (try have bO := Jq aI aA)) | (go_at_call 74; (first | refine (HGC.out _ tT).mono ?_ | refine (HGC.out _ (tT.next (Jb _ _))).mono ?_ | refine (HGC.out _ (tT.next (Ji _ _ _))).mono ?_); rintro e w2 ⟨rfl, o6⟩; (try clear e8 e9 j0); obtain ⟨c0, e8, e9, j0⟩ := c0.zc3 o6; (try clear o7); have o7 := c0.lt; (try clear j6 j7); obtain ⟨c1, j6, j7⟩ := c1.zc2 o6; (try clear o8); have o8 := c1.lt; (try have ca := ca.yy o6); (first | have hc := Ja hc o6 | (have o0 := Qp hc o6; obtain ⟨ca, aA, hc⟩ := o0) | (have o0 := Qx hc o6; obtain ⟨ca, aA, hc⟩ := o0)); (try have bN := Jq aH aA); (try have bO := Jq aI aA); (try (have cO := ca.lt; obtain ⟨cD, cE, cF, cG, cH, cI⟩ := ca.f2))))
  all_goals
   go_wp2
   go_meet
   (first | exact Jco hc ca aA | exact Jco (Ja hc (Jb _ _)) (Blk.new _ _ _) hc.size | exact ⟨_, rfl, hc.size, Blk.new _ _ _, Ja hc (Jb _ _)⟩)
 case rest =>
  obtain ⟨g, rfl, cP, b5, aJ⟩ := hcut
  clear HFR HGC
  have cJ : W.heap.size = w.heap.size + 1 + 1 + 1 := hZ.out
  have b0 := b0.below aJ b0.lt
  have b1 := b1.below aJ b1.lt
  have b2 := b2.below aJ b2.lt
  have y8 := Ja hB aJ
  have ne0 : ¬ g = w.heap.size + 1 + 1 := by omega
  have ne1 : ¬ w.heap.size + 1 + 1 = g := by omega
  have ne2 := neA w.heap.size
  have ne3 := neB w.heap.size
  have ne4 := neC w.heap.size
  have ne5 := neD w.heap.size
  clear aJ hB cJ hZ tT hT
  rename_i wc
  go_wp2_with fail
  obtain ⟨j9, l5, l7⟩ := b0.c3; have aH := b0.lt; have c0 := b0.drew; have o7 := c0.lt; obtain ⟨o9, p0⟩ := b1.c2; have aI := b1.lt; have c1 := b1.drew; have o8 := c1.lt; obtain ⟨cK, cL⟩ := b5.c2; have cQ := b5.lt; have c5 := b5.drew; have aD := c5.lt; have c2 := b2.drew; have p7 := c2.lt; have hc := Jl wc; go_region_held3 (fun w' => w'.cell? ⟨w.heap.size, 0, none⟩ = some (.bool ng) /\ w'.cell? ⟨w.heap.size, 1, none⟩ = some (.int .u64 (lo n.natAbs : Int)) /\ w'.cell? ⟨w.heap.size, 2, none⟩ = some (.string (mo n.natAbs)) /\ w'.cell? ⟨w.heap.size + 1, 0, none⟩ = some (.int .u64 (lo d : Int)) /\ w'.cell? ⟨w.heap.size + 1, 1, none⟩ = some (.string (mo d)) /\ w'.cell? ⟨g, 0, none⟩ = some (.int .u64 (lo G : Int)) /\ w'.cell? ⟨g, 1, none⟩ = some (.string (mo G))) (go_keep) (first | (go_at_call 77; refine (HPA.out _).mono ?_; rintro e w1 ⟨rfl, j8⟩; (try clear e8 e9 j0); obtain ⟨c0, e8, e9, j0⟩ := c0.zc3 j8; (try clear o7); have o7 := c0.lt; (try clear j6 j7); obtain ⟨c1, j6, j7⟩ := c1.zc2 j8; (try clear o8); have o8 := c1.lt; (try clear s9 t7); obtain ⟨c5, s9, t7⟩ := c5.zc2 j8; (try clear aD); have aD := c5.lt; have c2 := c2.yy j8; (try clear p7); have p7 := c2.lt; have hc := Ja hc j8) | (go_at_call 78; refine (HOV.out _).mono ?_; rintro e w2 ⟨rfl, o6⟩; (try clear e8 e9 j0); obtain ⟨c0, e8, e9, j0⟩ := c0.zc3 o6; (try clear o7); have o7 := c0.lt; (try clear j6 j7); obtain ⟨c1, j6, j7⟩ := c1.zc2 o6; (try clear o8); have o8 := c1.lt; (try clear s9 t7); obtain ⟨c5, s9, t7⟩ := c5.zc2 o6; (try clear aD); have aD := c5.lt; have c2 := c2.yy o6; (try clear p7); have p7 := c2.lt; have hc := Ja hc o6) | (go_at_call 76; refine (HPK.out _).mono ?_; rintro e w3 ⟨rfl, aK⟩; (try clear e8 e9 j0); obtain ⟨c0, e8, e9, j0⟩ := c0.zc3 aK; (try clear o7); have o7 := c0.lt; (try clear j6 j7); obtain ⟨c1, j6, j7⟩ := c1.zc2 aK; (try clear o8); have o8 := c1.lt; (try clear s9 t7); obtain ⟨c5, s9, t7⟩ := c5.zc2 aK; (try clear aD); have aD := c5.lt; have c2 := c2.yy aK; (try clear p7); have p7 := c2.lt; have hc := Ja hc aK; obtain ⟨aL, aM, aN, aO, aP, aQ, aR, aS, aT, aU, t8, u4, u5, x7, x8⟩ := c2.f5))
  all_goals
   go_wp2
   refine bodyPost_ret (v := .agg #[.bool nq, .int .u64 (lo q.num.natAbs : Int), .string (mo q.num.natAbs), .int .u64 (lo (qden q) : Int), .string (mo (qden q))]) (by simp [results, Tryz.results113, go_sem, t8, u4, u5, x7, x8]) rfl ?_
   exact ⟨rfl, Zf (Ja y8 hc) (by omega) _ _ _ _ _⟩
theorem Jgn (n d : Int) (h : d < 0) : Rat.divInt n d = mkRat (-n) d.natAbs := by
 cases d with
 | ofNat d => exact absurd h (by simp)
 | negSucc d =>
  show Rat.normalize (-n) (d + 1) (Nat.succ_ne_zero d) = _
  rw [Rat.normalize_eq_mkRat]
  rfl
theorem Jgm (n d : Int) (h : 0 <= d) : Rat.divInt n d = mkRat n d.natAbs := by
 cases d with
 | ofNat d => rfl
 | negSucc d => exact absurd h (by simp)
theorem Jgk (n : Int) (w : World) : Calls Tryz.prog 65 #[Js n, Js 0] w (Ret (.tuple #[qV 0, .bool false]) w) := by
 have hs := lh (fun w => Zl 0 w (by decide))
 have e : qV 0 = .agg #[.bool false, .int .u64 0, .string ⟨#[]⟩, .int .u64 0, .string ⟨#[]⟩] := rfl
 rw [e]
 clear e
 unfold Js at hs ⊢
 generalize decide (n < 0) = ng at *
 obtain ⟨nd, cB⟩ : ∃ nd, decide ((0 : Int) < 0) = nd := ⟨_, rfl⟩
 rw [cB] at hs ⊢
 clear cB
 have es : Int.sign 0 = 0 := rfl
 rw [es] at hs
 clear es
 generalize Int.natAbs 0 = d at *
 generalize n.natAbs = a at *
 obtain ⟨b0, b1, b2, hB, hZ⟩ := bx3 w 63 #[.bool ng, .int .u64 (lo a : Int), .string (mo a)] 63 #[.bool nd, .int .u64 (lo d : Int), .string (mo d)] 65 #[.bool false, .int .u64 0, .string ⟨#[]⟩, .int .u64 0, .string ⟨#[]⟩]
 go_enter Tryz.func65, Tryz.ntmps65
 go_wp2_with fail
 generalize (((w.alloc (.cells #[.bool ng, .int .u64 (lo a : Int), .string (mo a)] 63)).alloc (.cells #[.bool nd, .int .u64 (lo d : Int), .string (mo d)] 63)).alloc (.cells #[.bool false, .int .u64 0, .string ⟨#[]⟩, .int .u64 0, .string ⟨#[]⟩] 65)) = W at *
 refine (hs.out _).mono ?_
 rintro e w1 ⟨rfl, o0⟩
 have y8 := Ja hB o0
 (try clear bP bQ bR bS bT bU bV bW bX bY aV aW aX aY aZ); obtain ⟨b2, bP, bQ, bR, bS, bT, bU, bV, bW, bX, bY, aV, aW, aX, aY, aZ⟩ := b2.zf5 o0
 go_wp2
 refine bodyPost_ret (v := .tuple #[.agg #[.bool false, .int .u64 0, .string ⟨#[]⟩, .int .u64 0, .string ⟨#[]⟩], .bool false]) (by simp [results, Tryz.results65, go_sem, aV, aW, aX, aY, aZ]) rfl ?_
 exact ⟨rfl, Zf y8 (by omega) _ _ _ _ _⟩
theorem Jgi (n d : Int) (w : World) (hn : Je n.natAbs <= 549755813888) (hd : Je d.natAbs <= 549755813888) (x9 : 0 < d) (hT : Tab w) :
  Calls Tryz.prog 65 #[Js n, Js d] w (Ret (.tuple #[qV (mkRat n d.natAbs), .bool true]) w) := by
 have hs := fun w => Zl d w (by omega)
 rw [Int.sign_eq_one_of_pos x9] at hs
 have y9 := fun w => Kf d w
 have q9 := fun w (hT : Tab w) => Ja4 n d.natAbs w hn hd (by omega) hT
 generalize mkRat n d.natAbs = q at *
 unfold Jh at y9 q9
 unfold Js at hs y9 q9 ⊢
 unfold qV at q9 ⊢
 generalize decide (n < 0) = ng at *
 generalize decide (q.num < 0) = nq at *
 generalize decide (d < 0) = nd at *
 clear hn hd x9
 generalize d.natAbs = b at *
 generalize n.natAbs = a at *
 have HS := lh hs
 have HAB := lh y9
 have HLO := lh q9
 clear hs y9 q9
 obtain ⟨b0, b1, b2, hB, hZ⟩ := bx3 w 63 #[.bool ng, .int .u64 (lo a : Int), .string (mo a)] 63 #[.bool nd, .int .u64 (lo b : Int), .string (mo b)] 65 #[.bool false, .int .u64 0, .string ⟨#[]⟩, .int .u64 0, .string ⟨#[]⟩]
 have tT := hT.next hB
 go_enter Tryz.func65, Tryz.ntmps65
 go_wp2_with fail
 generalize (((w.alloc (.cells #[.bool ng, .int .u64 (lo a : Int), .string (mo a)] 63)).alloc (.cells #[.bool nd, .int .u64 (lo b : Int), .string (mo b)] 63)).alloc (.cells #[.bool false, .int .u64 0, .string ⟨#[]⟩, .int .u64 0, .string ⟨#[]⟩] 65)) = W at *
 refine (HS.out _).mono ?_
 rintro e w1 ⟨rfl, o0⟩
 have y8 := Ja hB o0
 (try clear j9 l5 l7); obtain ⟨b0, j9, l5, l7⟩ := b0.zc3 o0; (try clear o9 p0 p9); obtain ⟨b1, o9, p0, p9⟩ := b1.zc3 o0
 have b2 := b2.below o0 b2.lt
 have tT := tT.next o0
 clear o0 hB hT
 go_wp2_with fail
 refine (HS.out _).mono ?_
 rintro e w2 ⟨rfl, q8⟩
 have bH := Ja y8 q8
 have b0 := b0.below q8 b0.lt
 have b1 := b1.below q8 b1.lt
 have b2 := b2.below q8 b2.lt
 have tT := tT.next q8
 clear q8 y8 HS
 have ne2 := neA w.heap.size
 have ne3 := neB w.heap.size
 have ne4 := neC w.heap.size
 have ne5 := neD w.heap.size
 go_wp2_with fail
 obtain ⟨j9, l5, l7⟩ := b0.c3; have aH := b0.lt; have c0 := b0.drew; have o7 := c0.lt; obtain ⟨o9, p0, p9⟩ := b1.c3; have aI := b1.lt; have c1 := b1.drew; have o8 := c1.lt; have c2 := b2.drew; have p7 := c2.lt; have hc := Jl w2; have tT : Tab w2.drew := tT; go_region_held3 (fun w' => w'.cell? ⟨w.heap.size, 0, none⟩ = some (.bool ng) /\ w'.cell? ⟨w.heap.size, 1, none⟩ = some (.int .u64 (lo a : Int)) /\ w'.cell? ⟨w.heap.size, 2, none⟩ = some (.string (mo a)) /\ w'.cell? ⟨w.heap.size + 1, 0, none⟩ = some (.bool nd) /\ w'.cell? ⟨w.heap.size + 1, 1, none⟩ = some (.int .u64 (lo b : Int)) /\ w'.cell? ⟨w.heap.size + 1, 2, none⟩ = some (.string (mo b))) (go_keep) (first | (go_at_call 114; refine (HAB.out _).mono ?_; rintro e w1 ⟨rfl, j8⟩; (try clear e8 e9 j0); obtain ⟨c0, e8, e9, j0⟩ := c0.zc3 j8; (try clear o7); have o7 := c0.lt; (try clear j6 j7 p8); obtain ⟨c1, j6, j7, p8⟩ := c1.zc3 j8; (try clear o8); have o8 := c1.lt; have c2 := c2.yy j8; (try clear p7); have p7 := c2.lt; (first | have tT := tT.next j8 | have tT := (tT.next (Jb _ _)).next j8 | have tT := (tT.next (Ji _ _ _)).next j8); have hc := Ja hc j8) | (go_at_call 113; (first | refine (HLO.out _ tT).mono ?_ | refine (HLO.out _ (tT.next (Jb _ _))).mono ?_ | refine (HLO.out _ (tT.next (Ji _ _ _))).mono ?_); rintro e w2 ⟨rfl, o6⟩; (try clear e8 e9 j0); obtain ⟨c0, e8, e9, j0⟩ := c0.zc3 o6; (try clear o7); have o7 := c0.lt; (try clear j6 j7 p8); obtain ⟨c1, j6, j7, p8⟩ := c1.zc3 o6; (try clear o8); have o8 := c1.lt; have c2 := c2.yy o6; (try clear p7); have p7 := c2.lt; have hc := Ja hc o6; obtain ⟨aL, aM, aN, aO, aP, aQ, aR, aS, aT, aU, t8, u4, u5, x7, x8⟩ := c2.f5))
 all_goals
  go_wp2
  refine bodyPost_ret (v := .tuple #[.agg #[.bool nq, .int .u64 (lo q.num.natAbs : Int), .string (mo q.num.natAbs), .int .u64 (lo (qden q) : Int), .string (mo (qden q))], .bool true]) (by simp [results, Tryz.results65, go_sem, t8, u4, u5, x7, x8]) rfl ?_
  exact ⟨rfl, Zf (Ja bH hc) (by omega) _ _ _ _ _⟩
theorem Jgj (n d : Int) (w : World) (hn : Je n.natAbs <= 549755813888) (hd : Je d.natAbs <= 549755813888) (x9 : d < 0) (hT : Tab w) :
  Calls Tryz.prog 65 #[Js n, Js d] w (Ret (.tuple #[qV (mkRat (-n) d.natAbs), .bool true]) w) := by
 have hs := fun w => Zl d w (by omega)
 rw [Int.sign_eq_neg_one_of_neg x9] at hs
 have y9 := fun w => Kf d w
 have bI := fun w => Jcy n w (by omega)
 have q9 := fun w (hT : Tab w) => Ja4 (-n) d.natAbs w (by rw [Int.natAbs_neg]; exact hn) hd (by omega) hT
 generalize mkRat (-n) d.natAbs = q at *
 unfold Jh at y9 q9
 unfold Js at hs y9 q9 bI ⊢
 unfold qV at q9 ⊢
 rw [Int.natAbs_neg] at q9 bI
 generalize decide (n < 0) = ng at *
 generalize decide (-n < 0) = nm at *
 generalize decide (q.num < 0) = nq at *
 generalize decide (d < 0) = nd at *
 clear hn hd x9
 generalize d.natAbs = b at *
 generalize n.natAbs = a at *
 have HS := lh hs
 have HAB := lh y9
 have HLO := lh q9
 have HNG := lh bI
 clear hs y9 q9 bI
 obtain ⟨b0, b1, b2, hB, hZ⟩ := bx3 w 63 #[.bool ng, .int .u64 (lo a : Int), .string (mo a)] 63 #[.bool nd, .int .u64 (lo b : Int), .string (mo b)] 65 #[.bool false, .int .u64 0, .string ⟨#[]⟩, .int .u64 0, .string ⟨#[]⟩]
 have tT := hT.next hB
 have TW := lh hT
 go_enter Tryz.func65, Tryz.ntmps65
 go_wp2_with fail
 generalize (((w.alloc (.cells #[.bool ng, .int .u64 (lo a : Int), .string (mo a)] 63)).alloc (.cells #[.bool nd, .int .u64 (lo b : Int), .string (mo b)] 63)).alloc (.cells #[.bool false, .int .u64 0, .string ⟨#[]⟩, .int .u64 0, .string ⟨#[]⟩] 65)) = W at *
 refine (HS.out _).mono ?_
 rintro e w1 ⟨rfl, o0⟩
 have y8 := Ja hB o0
 (try clear j9 l5 l7); obtain ⟨b0, j9, l5, l7⟩ := b0.zc3 o0; (try clear o9 p0 p9); obtain ⟨b1, o9, p0, p9⟩ := b1.zc3 o0
 have b2 := b2.below o0 b2.lt
 have tT := tT.next o0
 clear o0 hB hT
 go_wp2_with fail
 refine (HS.out _).mono ?_
 rintro e w2 ⟨rfl, q8⟩
 have bH := Ja y8 q8
 (try clear j9 l5 l7); obtain ⟨b0, j9, l5, l7⟩ := b0.zc3 q8
 have b1 := b1.below q8 b1.lt
 have b2 := b2.below q8 b2.lt
 have tT := tT.next q8
 clear q8 y8 HS o9 p0 p9
 go_wp2_with fail
 refine (HNG.out _).mono ?_
 rintro e w3 ⟨rfl, aE⟩
 have cC := Ja bH aE
 (try clear j9 l5 l7 bA bB bC bD bE bF); obtain ⟨b0, j9, l5, l7, bA, bB, bC, bD, bE, bF⟩ := b0.zf3 aE
 have b1 := b1.below aE b1.lt
 have b2 := b2.below aE b2.lt
 have tT := tT.next aE
 have ne2 := neA w.heap.size
 have ne3 := neB w.heap.size
 have ne4 := neC w.heap.size
 have ne5 := neD w.heap.size
 have s1 := ((b0.set_ 0 (.bool nm)).set_ 1 (.int .u64 (lo a : Int))).set_ 2 (.string (mo a))
 have s2 := ((b1.far (p := ⟨w.heap.size, 0, none⟩) (by simp) (.bool nm)).far (p := ⟨w.heap.size, 1, none⟩) (by simp) (.int .u64 (lo a : Int))).far (p := ⟨w.heap.size, 2, none⟩) (by simp) (.string (mo a))
 have s3 := ((b2.far (p := ⟨w.heap.size, 0, none⟩) (by simp; omega) (.bool nm)).far (p := ⟨w.heap.size, 1, none⟩) (by simp; omega) (.int .u64 (lo a : Int))).far (p := ⟨w.heap.size, 2, none⟩) (by simp; omega) (.string (mo a))
 have s4 := Yf (g := w.heap.size) cC zd (.bool nm) (.int .u64 (lo a : Int)) (.string (mo a))
 have s5 : Tab (((w3.setCell ⟨w.heap.size, 0, none⟩ (.bool nm)).setCell ⟨w.heap.size, 1, none⟩ (.int .u64 (lo a : Int))).setCell ⟨w.heap.size, 2, none⟩ (.string (mo a))) := TW.out.next s4
 simp at s1
 clear aE HNG b0 b1 b2 tT cC bH
 have HC := lh (And.intro s1 (And.intro s2 (And.intro s3 (And.intro s4 s5))))
 clear s1 s2 s3 s4 s5
 go_wp2_with fail
 obtain ⟨b0, b1, b2, cM, tT⟩ := HC.out
 clear HC
 generalize ((w3.setCell ⟨w.heap.size, 0, none⟩ (.bool nm)).setCell ⟨w.heap.size, 1, none⟩ (.int .u64 (lo a : Int))).setCell ⟨w.heap.size, 2, none⟩ (.string (mo a)) = w4 at *
 clear j9 l5 l7 bA bB bC bD bE bF
 obtain ⟨j9, l5, l7⟩ := b0.c3; have aH := b0.lt; have c0 := b0.drew; have o7 := c0.lt; obtain ⟨o9, p0, p9⟩ := b1.c3; have aI := b1.lt; have c1 := b1.drew; have o8 := c1.lt; have c2 := b2.drew; have p7 := c2.lt; have hc := Jl w4; have tT : Tab w4.drew := tT; go_region_held3 (fun w' => w'.cell? ⟨w.heap.size, 0, none⟩ = some (.bool nm) /\ w'.cell? ⟨w.heap.size, 1, none⟩ = some (.int .u64 (lo a : Int)) /\ w'.cell? ⟨w.heap.size, 2, none⟩ = some (.string (mo a)) /\ w'.cell? ⟨w.heap.size + 1, 0, none⟩ = some (.bool nd) /\ w'.cell? ⟨w.heap.size + 1, 1, none⟩ = some (.int .u64 (lo b : Int)) /\ w'.cell? ⟨w.heap.size + 1, 2, none⟩ = some (.string (mo b))) (go_keep) (first | (go_at_call 114; refine (HAB.out _).mono ?_; rintro e w1 ⟨rfl, j8⟩; (try clear e8 e9 j0); obtain ⟨c0, e8, e9, j0⟩ := c0.zc3 j8; (try clear o7); have o7 := c0.lt; (try clear j6 j7 p8); obtain ⟨c1, j6, j7, p8⟩ := c1.zc3 j8; (try clear o8); have o8 := c1.lt; have c2 := c2.yy j8; (try clear p7); have p7 := c2.lt; (first | have tT := tT.next j8 | have tT := (tT.next (Jb _ _)).next j8 | have tT := (tT.next (Ji _ _ _)).next j8); have hc := Ja hc j8) | (go_at_call 113; (first | refine (HLO.out _ tT).mono ?_ | refine (HLO.out _ (tT.next (Jb _ _))).mono ?_ | refine (HLO.out _ (tT.next (Ji _ _ _))).mono ?_); rintro e w2 ⟨rfl, o6⟩; (try clear e8 e9 j0); obtain ⟨c0, e8, e9, j0⟩ := c0.zc3 o6; (try clear o7); have o7 := c0.lt; (try clear j6 j7 p8); obtain ⟨c1, j6, j7, p8⟩ := c1.zc3 o6; (try clear o8); have o8 := c1.lt; have c2 := c2.yy o6; (try clear p7); have p7 := c2.lt; have hc := Ja hc o6; obtain ⟨aL, aM, aN, aO, aP, aQ, aR, aS, aT, aU, t8, u4, u5, x7, x8⟩ := c2.f5))
 all_goals
  go_wp2
  refine bodyPost_ret (v := .tuple #[.agg #[.bool nq, .int .u64 (lo q.num.natAbs : Int), .string (mo q.num.natAbs), .int .u64 (lo (qden q) : Int), .string (mo (qden q))], .bool true]) (by simp [results, Tryz.results65, go_sem, t8, u4, u5, x7, x8]) rfl ?_
  exact ⟨rfl, Zf (Ja cM hc) (by omega) _ _ _ _ _⟩
theorem Jh3 (n d : Int) (w : World) (hn : Je n.natAbs <= 549755813888) (hd : Je d.natAbs <= 549755813888) (hT : Tab w) :
  Calls Tryz.prog 65 #[Js n, Js d] w (Ret (.tuple #[qV (Rat.divInt n d), .bool (decide (d ≠ 0))]) w) := by
 rcases Int.lt_trichotomy d 0 with h | h | h
 ·rw [Jgn n d h, decide_eq_true (show d ≠ 0 by omega)]
  exact Jgj n d w hn hd h hT
 ·subst h
  have e : Rat.divInt n 0 = 0 := Rat.divInt_zero n
  rw [e, decide_eq_false (by simp)]
  exact Jgk n w
 rw [Jgm n d (by omega), decide_eq_true (show d ≠ 0 by omega)]
 exact Jgi n d w hn hd h hT
