import Derived.Test.YtacbcaebaomglaaGreatDoorFracBase
import Derived.Test.YtacbcaebaomglaaGreatDoorGcdE
namespace Go.Proofs.YtacbcaebaomglaaGreatDoor
set_option maxRecDepth 100000
set_option maxHeartbeats 1000000
open Go.RowKit
set_option linter.all false
theorem Jcz (n : Int) (d : Nat) (w : World) (hn : Je n.natAbs <= 549755813888) (hd : Je d <= 549755813888) (aC : d ≠ 0) (hT : Tab w) :
  Calls Tryz.prog 113 #[Jx n, Jh d] w (Ret (qV (mkRat n d)) w) := by
 have aG := fun w => Qc false d w (by omega)
 have e : signed false d = (d : Int) := rfl
 rw [e] at aG
 clear e
 have aH := fun w (hT : Tab w) => Uq n d w hn (by rw [Int.natAbs_natCast]; exact hd) hT
 rw [Int.natAbs_natCast] at aH
 have bO := Nat.gcd_dvd_left n.natAbs d
 have cE := Nat.gcd_dvd_right n.natAbs d
 have bP : Nat.gcd n.natAbs d ≠ 0 := fun h => aC (Nat.gcd_eq_zero_iff.1 h).2
 have bQ : (mkRat n d).num = n / (Nat.gcd n.natAbs d : Nat) := by rw [Rat.num_mkRat, if_neg aC, Nat.gcd_comm]
 have bR : (mkRat n d).den = d / Nat.gcd n.natAbs d := by rw [Rat.den_mkRat, if_neg aC, Nat.gcd_comm]
 have cF : QS 1099511627776 (mkRat n d) := ⟨by rw [bQ]; exact nt (Ja3 bO) (by omega), by rw [bR]; exact nt (Zo _ _) (by omega)⟩
 have cT : Je (Nat.gcd n.natAbs d) <= 549755813888 := nt (Jz (Nat.le_of_dvd (by omega) cE)) hd
 generalize Nat.gcd n.natAbs d = G at *
 generalize mkRat n d = q at *
 have aK := fun w => Ja0 n G w (by omega) (by omega) bP bO
 have bL := fun w => Yw d G w (by omega) (by omega) bP
 have aL := fun w => Ja1 q w cF
 rw [<- bQ] at aK
 rw [<- bR] at bL
 clear bQ bR bO cE bP cF
 unfold Jh at aG aH aK bL aL ⊢
 unfold Jx at aG aH aK aL ⊢
 unfold qV at aL ⊢
 rw [Int.natAbs_natCast] at aG aH
 generalize decide (n < 0) = ng at *
 generalize decide (q.num < 0) = nq at *
 generalize decide ((d : Int) < 0) = nd at *
 have HFR := lh aG
 have HGC := lh aH
 have HPA := lh aK
 have HOV := lh bL
 have HPK := lh aL
 clear aG aH aK bL aL
 obtain ⟨b0, b1, b2, hB, hZ⟩ := bx3 w 63 #[.bool ng, .int .u64 (lo n.natAbs : Int), .string (mo n.natAbs)] 61 #[.int .u64 (lo d : Int), .string (mo d)] 65 #[.bool false, .int .u64 0, .string ⟨#[]⟩, .int .u64 0, .string ⟨#[]⟩]
 have tT := hT.next hB
 go_enter Tryz.func113, Tryz.ntmps113
 go_upto_region 1 with fail
 generalize (((w.alloc (.cells #[.bool ng, .int .u64 (lo n.natAbs : Int), .string (mo n.natAbs)] 63)).alloc (.cells #[.int .u64 (lo d : Int), .string (mo d)] 61)).alloc (.cells #[.bool false, .int .u64 0, .string ⟨#[]⟩, .int .u64 0, .string ⟨#[]⟩] 65)) = W at *
 go_cut [5] (fun v5 wc => Vr W 61 #[.int .u64 (lo G : Int), .string (mo G)] v5 wc)
 case first =>
  obtain ⟨j9, o0, o6⟩ := b0.c3; have aM := b0.lt; have c0 := b0.drew; have o9 := c0.lt; obtain ⟨p8, p9⟩ := b1.c2; have aN := b1.lt; have c1 := b1.drew; have p7 := c1.lt; have hc := Ji W; have tT : Tab W.drew := tT; go_region_held3 (fun w' => w'.cell? ⟨w.heap.size, 0, none⟩ = some (.bool ng) /\ w'.cell? ⟨w.heap.size, 1, none⟩ = some (.int .u64 (lo n.natAbs : Int)) /\ w'.cell? ⟨w.heap.size, 2, none⟩ = some (.string (mo n.natAbs)) /\ w'.cell? ⟨w.heap.size + 1, 0, none⟩ = some (.int .u64 (lo d : Int)) /\ w'.cell? ⟨w.heap.size + 1, 1, none⟩ = some (.string (mo d))) (go_keep) (first | (go_at_call 67; refine (HFR.out _).mono ?_; rintro e w1 ⟨rfl, j8⟩; (try clear e8 e9 j0); obtain ⟨c0, e8, e9, j0⟩ := c0.zc3 j8; (try clear o9); have o9 := c0.lt; (try clear j6 j7); obtain ⟨c1, j6, j7⟩ := c1.zc2 j8; (try clear p7); have p7 := c1.lt; (try have ca := ca.yy j8); (first | have tT := tT.next j8 | have tT := (tT.next (Jb _ _)).next j8 | have tT := (tT.next (Jj _ _ _)).next j8); (first | have hc := Ja hc j8 | (have o7 := Qy hc j8; obtain ⟨ca, aF, hc⟩ := o7) | (have o7 := Xg hc j8; obtain ⟨ca, aF, hc⟩ := o7)); (try have bS := Jv aM aF); (try have bT := Jv aN aF)) | (go_at_call 74; (first | refine (HGC.out _ tT).mono ?_ | refine (HGC.out _ (tT.next (Jb _ _))).mono ?_ | refine (HGC.out _ (tT.next (Jj _ _ _))).mono ?_); rintro e w2 ⟨rfl, o8⟩; (try clear e8 e9 j0); obtain ⟨c0, e8, e9, j0⟩ := c0.zc3 o8; (try clear o9); have o9 := c0.lt; (try clear j6 j7); obtain ⟨c1, j6, j7⟩ := c1.zc2 o8; (try clear p7); have p7 := c1.lt; (try have ca := ca.yy o8); (first | have hc := Ja hc o8 | (have o7 := Qy hc o8; obtain ⟨ca, aF, hc⟩ := o7) | (have o7 := Xg hc o8; obtain ⟨ca, aF, hc⟩ := o7)); (try have bS := Jv aM aF); (try have bT := Jv aN aF); (try (have cU := ca.lt; obtain ⟨cI, cJ, cK, cL, cM, cN⟩ := ca.f2))))
  all_goals
   go_wp2
   go_meet
   (first | exact Jeu hc ca aF | exact Jeu (Ja hc (Jb _ _)) (Blk.new _ _ _) hc.size | exact ⟨_, rfl, hc.size, Blk.new _ _ _, Ja hc (Jb _ _)⟩)
 case rest =>
  obtain ⟨g, rfl, cV, b5, aO⟩ := hcut
  clear HFR HGC
  have cO : W.heap.size = w.heap.size + 1 + 1 + 1 := hZ.out
  have b0 := b0.below aO b0.lt
  have b1 := b1.below aO b1.lt
  have b2 := b2.below aO b2.lt
  have aD := Ja hB aO
  have ne0 : ¬ g = w.heap.size + 1 + 1 := by omega
  have ne1 : ¬ w.heap.size + 1 + 1 = g := by omega
  have ne2 := neA w.heap.size
  have ne3 := neB w.heap.size
  have ne4 := neC w.heap.size
  have ne5 := neD w.heap.size
  clear aO hB cO hZ tT hT
  rename_i wc
  go_wp2_with fail
  obtain ⟨j9, o0, o6⟩ := b0.c3; have aM := b0.lt; have c0 := b0.drew; have o9 := c0.lt; obtain ⟨p8, p9⟩ := b1.c2; have aN := b1.lt; have c1 := b1.drew; have p7 := c1.lt; obtain ⟨cP, cQ⟩ := b5.c2; have cW := b5.lt; have c5 := b5.drew; have aI := c5.lt; have c2 := b2.drew; have q8 := c2.lt; have hc := Ji wc; go_region_held3 (fun w' => w'.cell? ⟨w.heap.size, 0, none⟩ = some (.bool ng) /\ w'.cell? ⟨w.heap.size, 1, none⟩ = some (.int .u64 (lo n.natAbs : Int)) /\ w'.cell? ⟨w.heap.size, 2, none⟩ = some (.string (mo n.natAbs)) /\ w'.cell? ⟨w.heap.size + 1, 0, none⟩ = some (.int .u64 (lo d : Int)) /\ w'.cell? ⟨w.heap.size + 1, 1, none⟩ = some (.string (mo d)) /\ w'.cell? ⟨g, 0, none⟩ = some (.int .u64 (lo G : Int)) /\ w'.cell? ⟨g, 1, none⟩ = some (.string (mo G))) (go_keep) (first | (go_at_call 77; refine (HPA.out _).mono ?_; rintro e w1 ⟨rfl, j8⟩; (try clear e8 e9 j0); obtain ⟨c0, e8, e9, j0⟩ := c0.zc3 j8; (try clear o9); have o9 := c0.lt; (try clear j6 j7); obtain ⟨c1, j6, j7⟩ := c1.zc2 j8; (try clear p7); have p7 := c1.lt; (try clear x7 x8); obtain ⟨c5, x7, x8⟩ := c5.zc2 j8; (try clear aI); have aI := c5.lt; have c2 := c2.yy j8; (try clear q8); have q8 := c2.lt; have hc := Ja hc j8) | (go_at_call 78; refine (HOV.out _).mono ?_; rintro e w2 ⟨rfl, o8⟩; (try clear e8 e9 j0); obtain ⟨c0, e8, e9, j0⟩ := c0.zc3 o8; (try clear o9); have o9 := c0.lt; (try clear j6 j7); obtain ⟨c1, j6, j7⟩ := c1.zc2 o8; (try clear p7); have p7 := c1.lt; (try clear x7 x8); obtain ⟨c5, x7, x8⟩ := c5.zc2 o8; (try clear aI); have aI := c5.lt; have c2 := c2.yy o8; (try clear q8); have q8 := c2.lt; have hc := Ja hc o8) | (go_at_call 76; refine (HPK.out _).mono ?_; rintro e w3 ⟨rfl, aP⟩; (try clear e8 e9 j0); obtain ⟨c0, e8, e9, j0⟩ := c0.zc3 aP; (try clear o9); have o9 := c0.lt; (try clear j6 j7); obtain ⟨c1, j6, j7⟩ := c1.zc2 aP; (try clear p7); have p7 := c1.lt; (try clear x7 x8); obtain ⟨c5, x7, x8⟩ := c5.zc2 aP; (try clear aI); have aI := c5.lt; have c2 := c2.yy aP; (try clear q8); have q8 := c2.lt; have hc := Ja hc aP; obtain ⟨aQ, aR, aS, aT, aU, aV, aW, aX, aY, aZ, x9, y8, y9, aA, aB⟩ := c2.f5))
  all_goals
   go_wp2
   refine bodyPost_ret (v := .agg #[.bool nq, .int .u64 (lo q.num.natAbs : Int), .string (mo q.num.natAbs), .int .u64 (lo (qden q) : Int), .string (mo (qden q))]) (by simp [results, Tryz.results113, go_sem, x9, y8, y9, aA, aB]) rfl ?_
   exact ⟨rfl, Yt (Ja aD hc) (by omega) _ _ _ _ _⟩
theorem Jjn (n d : Int) (h : d < 0) : Rat.divInt n d = mkRat (-n) d.natAbs := by
 cases d with
 | ofNat d => exact absurd h (by simp)
 | negSucc d =>
  show Rat.normalize (-n) (d + 1) (Nat.succ_ne_zero d) = _
  rw [Rat.normalize_eq_mkRat]
  rfl
theorem Jjm (n d : Int) (h : 0 <= d) : Rat.divInt n d = mkRat n d.natAbs := by
 cases d with
 | ofNat d => rfl
 | negSucc d => exact absurd h (by simp)
theorem Jjk (n : Int) (w : World) : Calls Tryz.prog 65 #[Jx n, Jx 0] w (Ret (.tuple #[qV 0, .bool false]) w) := by
 have hs := lh (fun w => Yu 0 w (by decide))
 have e : qV 0 = .agg #[.bool false, .int .u64 0, .string ⟨#[]⟩, .int .u64 0, .string ⟨#[]⟩] := rfl
 rw [e]
 clear e
 unfold Jx at hs ⊢
 generalize decide (n < 0) = ng at *
 obtain ⟨nd, cG⟩ : ∃ nd, decide ((0 : Int) < 0) = nd := ⟨_, rfl⟩
 rw [cG] at hs ⊢
 clear cG
 have es : Int.sign 0 = 0 := rfl
 rw [es] at hs
 clear es
 generalize Int.natAbs 0 = d at *
 generalize n.natAbs = a at *
 obtain ⟨b0, b1, b2, hB, hZ⟩ := bx3 w 63 #[.bool ng, .int .u64 (lo a : Int), .string (mo a)] 63 #[.bool nd, .int .u64 (lo d : Int), .string (mo d)] 65 #[.bool false, .int .u64 0, .string ⟨#[]⟩, .int .u64 0, .string ⟨#[]⟩]
 go_enter Tryz.func65, Tryz.ntmps65
 go_wp2_with fail
 generalize (((w.alloc (.cells #[.bool ng, .int .u64 (lo a : Int), .string (mo a)] 63)).alloc (.cells #[.bool nd, .int .u64 (lo d : Int), .string (mo d)] 63)).alloc (.cells #[.bool false, .int .u64 0, .string ⟨#[]⟩, .int .u64 0, .string ⟨#[]⟩] 65)) = W at *
 refine (hs.out _).mono ?_
 rintro e w1 ⟨rfl, o7⟩
 have aD := Ja hB o7
 (try clear bU bV bW bX bY bZ cA cB cC cD bA bB bC bD bE); obtain ⟨b2, bU, bV, bW, bX, bY, bZ, cA, cB, cC, cD, bA, bB, bC, bD, bE⟩ := b2.zf5 o7
 go_wp2
 refine bodyPost_ret (v := .tuple #[.agg #[.bool false, .int .u64 0, .string ⟨#[]⟩, .int .u64 0, .string ⟨#[]⟩], .bool false]) (by simp [results, Tryz.results65, go_sem, bA, bB, bC, bD, bE]) rfl ?_
 exact ⟨rfl, Yt aD (by omega) _ _ _ _ _⟩
theorem Jji (n d : Int) (w : World) (hn : Je n.natAbs <= 549755813888) (hd : Je d.natAbs <= 549755813888) (aC : 0 < d) (hT : Tab w) :
  Calls Tryz.prog 65 #[Jx n, Jx d] w (Ret (.tuple #[qV (mkRat n d.natAbs), .bool true]) w) := by
 have hs := fun w => Yu d w (by omega)
 rw [Int.sign_eq_one_of_pos aC] at hs
 have aE := fun w => Ur d w
 have u4 := fun w (hT : Tab w) => Jcz n d.natAbs w hn hd (by omega) hT
 generalize mkRat n d.natAbs = q at *
 unfold Jh at aE u4
 unfold Jx at hs aE u4 ⊢
 unfold qV at u4 ⊢
 generalize decide (n < 0) = ng at *
 generalize decide (q.num < 0) = nq at *
 generalize decide (d < 0) = nd at *
 clear hn hd aC
 generalize d.natAbs = b at *
 generalize n.natAbs = a at *
 have HS := lh hs
 have HAB := lh aE
 have HLO := lh u4
 clear hs aE u4
 obtain ⟨b0, b1, b2, hB, hZ⟩ := bx3 w 63 #[.bool ng, .int .u64 (lo a : Int), .string (mo a)] 63 #[.bool nd, .int .u64 (lo b : Int), .string (mo b)] 65 #[.bool false, .int .u64 0, .string ⟨#[]⟩, .int .u64 0, .string ⟨#[]⟩]
 have tT := hT.next hB
 go_enter Tryz.func65, Tryz.ntmps65
 go_wp2_with fail
 generalize (((w.alloc (.cells #[.bool ng, .int .u64 (lo a : Int), .string (mo a)] 63)).alloc (.cells #[.bool nd, .int .u64 (lo b : Int), .string (mo b)] 63)).alloc (.cells #[.bool false, .int .u64 0, .string ⟨#[]⟩, .int .u64 0, .string ⟨#[]⟩] 65)) = W at *
 refine (HS.out _).mono ?_
 rintro e w1 ⟨rfl, o7⟩
 have aD := Ja hB o7
 (try clear j9 o0 o6); obtain ⟨b0, j9, o0, o6⟩ := b0.zc3 o7; (try clear p8 p9 t7); obtain ⟨b1, p8, p9, t7⟩ := b1.zc3 o7
 have b2 := b2.below o7 b2.lt
 have tT := tT.next o7
 clear o7 hB hT
 go_wp2_with fail
 refine (HS.out _).mono ?_
 rintro e w2 ⟨rfl, t8⟩
 have bM := Ja aD t8
 have b0 := b0.below t8 b0.lt
 have b1 := b1.below t8 b1.lt
 have b2 := b2.below t8 b2.lt
 have tT := tT.next t8
 clear t8 aD HS
 have ne2 := neA w.heap.size
 have ne3 := neB w.heap.size
 have ne4 := neC w.heap.size
 have ne5 := neD w.heap.size
 go_wp2_with fail
 obtain ⟨j9, o0, o6⟩ := b0.c3; have aM := b0.lt; have c0 := b0.drew; have o9 := c0.lt; obtain ⟨p8, p9, t7⟩ := b1.c3; have aN := b1.lt; have c1 := b1.drew; have p7 := c1.lt; have c2 := b2.drew; have q8 := c2.lt; have hc := Ji w2; have tT : Tab w2.drew := tT; go_region_held3 (fun w' => w'.cell? ⟨w.heap.size, 0, none⟩ = some (.bool ng) /\ w'.cell? ⟨w.heap.size, 1, none⟩ = some (.int .u64 (lo a : Int)) /\ w'.cell? ⟨w.heap.size, 2, none⟩ = some (.string (mo a)) /\ w'.cell? ⟨w.heap.size + 1, 0, none⟩ = some (.bool nd) /\ w'.cell? ⟨w.heap.size + 1, 1, none⟩ = some (.int .u64 (lo b : Int)) /\ w'.cell? ⟨w.heap.size + 1, 2, none⟩ = some (.string (mo b))) (go_keep) (first | (go_at_call 114; refine (HAB.out _).mono ?_; rintro e w1 ⟨rfl, j8⟩; (try clear e8 e9 j0); obtain ⟨c0, e8, e9, j0⟩ := c0.zc3 j8; (try clear o9); have o9 := c0.lt; (try clear j6 j7 s9); obtain ⟨c1, j6, j7, s9⟩ := c1.zc3 j8; (try clear p7); have p7 := c1.lt; have c2 := c2.yy j8; (try clear q8); have q8 := c2.lt; (first | have tT := tT.next j8 | have tT := (tT.next (Jb _ _)).next j8 | have tT := (tT.next (Jj _ _ _)).next j8); have hc := Ja hc j8) | (go_at_call 113; (first | refine (HLO.out _ tT).mono ?_ | refine (HLO.out _ (tT.next (Jb _ _))).mono ?_ | refine (HLO.out _ (tT.next (Jj _ _ _))).mono ?_); rintro e w2 ⟨rfl, o8⟩; (try clear e8 e9 j0); obtain ⟨c0, e8, e9, j0⟩ := c0.zc3 o8; (try clear o9); have o9 := c0.lt; (try clear j6 j7 s9); obtain ⟨c1, j6, j7, s9⟩ := c1.zc3 o8; (try clear p7); have p7 := c1.lt; have c2 := c2.yy o8; (try clear q8); have q8 := c2.lt; have hc := Ja hc o8; obtain ⟨aQ, aR, aS, aT, aU, aV, aW, aX, aY, aZ, x9, y8, y9, aA, aB⟩ := c2.f5))
 all_goals
  go_wp2
  refine bodyPost_ret (v := .tuple #[.agg #[.bool nq, .int .u64 (lo q.num.natAbs : Int), .string (mo q.num.natAbs), .int .u64 (lo (qden q) : Int), .string (mo (qden q))], .bool true]) (by simp [results, Tryz.results65, go_sem, x9, y8, y9, aA, aB]) rfl ?_
  exact ⟨rfl, Yt (Ja bM hc) (by omega) _ _ _ _ _⟩
theorem Jjj (n d : Int) (w : World) (hn : Je n.natAbs <= 549755813888) (hd : Je d.natAbs <= 549755813888) (aC : d < 0) (hT : Tab w) :
  Calls Tryz.prog 65 #[Jx n, Jx d] w (Ret (.tuple #[qV (mkRat (-n) d.natAbs), .bool true]) w) := by
 have hs := fun w => Yu d w (by omega)
 rw [Int.sign_eq_neg_one_of_neg aC] at hs
 have aE := fun w => Ur d w
 have bN := fun w => Je6 n w (by omega)
 have u4 := fun w (hT : Tab w) => Jcz (-n) d.natAbs w (by rw [Int.natAbs_neg]; exact hn) hd (by omega) hT
 generalize mkRat (-n) d.natAbs = q at *
 unfold Jh at aE u4
 unfold Jx at hs aE u4 bN ⊢
 unfold qV at u4 ⊢
 rw [Int.natAbs_neg] at u4 bN
 generalize decide (n < 0) = ng at *
 generalize decide (-n < 0) = nm at *
 generalize decide (q.num < 0) = nq at *
 generalize decide (d < 0) = nd at *
 clear hn hd aC
 generalize d.natAbs = b at *
 generalize n.natAbs = a at *
 have HS := lh hs
 have HAB := lh aE
 have HLO := lh u4
 have HNG := lh bN
 clear hs aE u4 bN
 obtain ⟨b0, b1, b2, hB, hZ⟩ := bx3 w 63 #[.bool ng, .int .u64 (lo a : Int), .string (mo a)] 63 #[.bool nd, .int .u64 (lo b : Int), .string (mo b)] 65 #[.bool false, .int .u64 0, .string ⟨#[]⟩, .int .u64 0, .string ⟨#[]⟩]
 have tT := hT.next hB
 have TW := lh hT
 go_enter Tryz.func65, Tryz.ntmps65
 go_wp2_with fail
 generalize (((w.alloc (.cells #[.bool ng, .int .u64 (lo a : Int), .string (mo a)] 63)).alloc (.cells #[.bool nd, .int .u64 (lo b : Int), .string (mo b)] 63)).alloc (.cells #[.bool false, .int .u64 0, .string ⟨#[]⟩, .int .u64 0, .string ⟨#[]⟩] 65)) = W at *
 refine (HS.out _).mono ?_
 rintro e w1 ⟨rfl, o7⟩
 have aD := Ja hB o7
 (try clear j9 o0 o6); obtain ⟨b0, j9, o0, o6⟩ := b0.zc3 o7; (try clear p8 p9 t7); obtain ⟨b1, p8, p9, t7⟩ := b1.zc3 o7
 have b2 := b2.below o7 b2.lt
 have tT := tT.next o7
 clear o7 hB hT
 go_wp2_with fail
 refine (HS.out _).mono ?_
 rintro e w2 ⟨rfl, t8⟩
 have bM := Ja aD t8
 (try clear j9 o0 o6); obtain ⟨b0, j9, o0, o6⟩ := b0.zc3 t8
 have b1 := b1.below t8 b1.lt
 have b2 := b2.below t8 b2.lt
 have tT := tT.next t8
 clear t8 aD HS p8 p9 t7
 go_wp2_with fail
 refine (HNG.out _).mono ?_
 rintro e w3 ⟨rfl, aJ⟩
 have cH := Ja bM aJ
 (try clear j9 o0 o6 bF bG bH bI bJ bK); obtain ⟨b0, j9, o0, o6, bF, bG, bH, bI, bJ, bK⟩ := b0.zf3 aJ
 have b1 := b1.below aJ b1.lt
 have b2 := b2.below aJ b2.lt
 have tT := tT.next aJ
 have ne2 := neA w.heap.size
 have ne3 := neB w.heap.size
 have ne4 := neC w.heap.size
 have ne5 := neD w.heap.size
 have s1 := ((b0.set_ 0 (.bool nm)).set_ 1 (.int .u64 (lo a : Int))).set_ 2 (.string (mo a))
 have s2 := ((b1.far (p := ⟨w.heap.size, 0, none⟩) (by simp) (.bool nm)).far (p := ⟨w.heap.size, 1, none⟩) (by simp) (.int .u64 (lo a : Int))).far (p := ⟨w.heap.size, 2, none⟩) (by simp) (.string (mo a))
 have s3 := ((b2.far (p := ⟨w.heap.size, 0, none⟩) (by simp; omega) (.bool nm)).far (p := ⟨w.heap.size, 1, none⟩) (by simp; omega) (.int .u64 (lo a : Int))).far (p := ⟨w.heap.size, 2, none⟩) (by simp; omega) (.string (mo a))
 have s4 := Ki (g := w.heap.size) cH zd (.bool nm) (.int .u64 (lo a : Int)) (.string (mo a))
 have s5 : Tab (((w3.setCell ⟨w.heap.size, 0, none⟩ (.bool nm)).setCell ⟨w.heap.size, 1, none⟩ (.int .u64 (lo a : Int))).setCell ⟨w.heap.size, 2, none⟩ (.string (mo a))) := TW.out.next s4
 simp at s1
 clear aJ HNG b0 b1 b2 tT cH bM
 have HC := lh (And.intro s1 (And.intro s2 (And.intro s3 (And.intro s4 s5))))
 clear s1 s2 s3 s4 s5
 go_wp2_with fail
 obtain ⟨b0, b1, b2, cS, tT⟩ := HC.out
 clear HC
 generalize ((w3.setCell ⟨w.heap.size, 0, none⟩ (.bool nm)).setCell ⟨w.heap.size, 1, none⟩ (.int .u64 (lo a : Int))).setCell ⟨w.heap.size, 2, none⟩ (.string (mo a)) = w4 at *
 clear j9 o0 o6 bF bG bH bI bJ bK
 obtain ⟨j9, o0, o6⟩ := b0.c3; have aM := b0.lt; have c0 := b0.drew; have o9 := c0.lt; obtain ⟨p8, p9, t7⟩ := b1.c3; have aN := b1.lt; have c1 := b1.drew; have p7 := c1.lt; have c2 := b2.drew; have q8 := c2.lt; have hc := Ji w4; have tT : Tab w4.drew := tT; go_region_held3 (fun w' => w'.cell? ⟨w.heap.size, 0, none⟩ = some (.bool nm) /\ w'.cell? ⟨w.heap.size, 1, none⟩ = some (.int .u64 (lo a : Int)) /\ w'.cell? ⟨w.heap.size, 2, none⟩ = some (.string (mo a)) /\ w'.cell? ⟨w.heap.size + 1, 0, none⟩ = some (.bool nd) /\ w'.cell? ⟨w.heap.size + 1, 1, none⟩ = some (.int .u64 (lo b : Int)) /\ w'.cell? ⟨w.heap.size + 1, 2, none⟩ = some (.string (mo b))) (go_keep) (first | (go_at_call 114; refine (HAB.out _).mono ?_; rintro e w1 ⟨rfl, j8⟩; (try clear e8 e9 j0); obtain ⟨c0, e8, e9, j0⟩ := c0.zc3 j8; (try clear o9); have o9 := c0.lt; (try clear j6 j7 s9); obtain ⟨c1, j6, j7, s9⟩ := c1.zc3 j8; (try clear p7); have p7 := c1.lt; have c2 := c2.yy j8; (try clear q8); have q8 := c2.lt; (first | have tT := tT.next j8 | have tT := (tT.next (Jb _ _)).next j8 | have tT := (tT.next (Jj _ _ _)).next j8); have hc := Ja hc j8) | (go_at_call 113; (first | refine (HLO.out _ tT).mono ?_ | refine (HLO.out _ (tT.next (Jb _ _))).mono ?_ | refine (HLO.out _ (tT.next (Jj _ _ _))).mono ?_); rintro e w2 ⟨rfl, o8⟩; (try clear e8 e9 j0); obtain ⟨c0, e8, e9, j0⟩ := c0.zc3 o8; (try clear o9); have o9 := c0.lt; (try clear j6 j7 s9); obtain ⟨c1, j6, j7, s9⟩ := c1.zc3 o8; (try clear p7); have p7 := c1.lt; have c2 := c2.yy o8; (try clear q8); have q8 := c2.lt; have hc := Ja hc o8; obtain ⟨aQ, aR, aS, aT, aU, aV, aW, aX, aY, aZ, x9, y8, y9, aA, aB⟩ := c2.f5))
 all_goals
  go_wp2
  refine bodyPost_ret (v := .tuple #[.agg #[.bool nq, .int .u64 (lo q.num.natAbs : Int), .string (mo q.num.natAbs), .int .u64 (lo (qden q) : Int), .string (mo (qden q))], .bool true]) (by simp [results, Tryz.results65, go_sem, x9, y8, y9, aA, aB]) rfl ?_
  exact ⟨rfl, Yt (Ja cS hc) (by omega) _ _ _ _ _⟩
theorem Jk3 (n d : Int) (w : World) (hn : Je n.natAbs <= 549755813888) (hd : Je d.natAbs <= 549755813888) (hT : Tab w) :
  Calls Tryz.prog 65 #[Jx n, Jx d] w (Ret (.tuple #[qV (Rat.divInt n d), .bool (decide (d ≠ 0))]) w) := by
 rcases Int.lt_trichotomy d 0 with h | h | h
 ·rw [Jjn n d h, decide_eq_true (show d ≠ 0 by omega)]
  exact Jjj n d w hn hd h hT
 ·subst h
  have e : Rat.divInt n 0 = 0 := Rat.divInt_zero n
  rw [e, decide_eq_false (by simp)]
  exact Jjk n w
 rw [Jjm n d (by omega), decide_eq_true (show d ≠ 0 by omega)]
 exact Jji n d w hn hd h hT
