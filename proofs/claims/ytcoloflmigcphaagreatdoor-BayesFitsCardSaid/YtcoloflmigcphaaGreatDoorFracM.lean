import Derived.Test.YtcoloflmigcphaaGreatDoorFracBase
import Derived.Test.YtcoloflmigcphaaGreatDoorGcdE
namespace Go.Proofs.YtcoloflmigcphaaGreatDoor
set_option maxRecDepth 100000
set_option maxHeartbeats 1000000
open Go.RowKit
set_option linter.all false
theorem Jo5 (n : Int) (d : Nat) (w : World) (hn : Je n.natAbs <= 549755813888) (hd : Je d <= 549755813888) (aK : d ≠ 0) (hT : Tab w) :
  Calls Tryz.prog 100 #[Qj n, Jg d] w (Ret (qV (mkRat n d)) w) := by
 have aO := fun w => Qw false d w (by omega)
 have e : signed false d = (d : Int) := rfl
 rw [e] at aO
 clear e
 have aP := fun w (hT : Tab w) => Vf n d w hn (by rw [Int.natAbs_natCast]; exact hd) hT
 rw [Int.natAbs_natCast] at aP
 have bW := Nat.gcd_dvd_left n.natAbs d
 have cO := Nat.gcd_dvd_right n.natAbs d
 have bX : Nat.gcd n.natAbs d ≠ 0 := fun h => aK (Nat.gcd_eq_zero_iff.1 h).2
 have bY : (mkRat n d).num = n / (Nat.gcd n.natAbs d : Nat) := by rw [Rat.num_mkRat, if_neg aK, Nat.gcd_comm]
 have bZ : (mkRat n d).den = d / Nat.gcd n.natAbs d := by rw [Rat.den_mkRat, if_neg aK, Nat.gcd_comm]
 have cP : QS 1099511627776 (mkRat n d) := ⟨by rw [bY]; exact nt (Jbk bW) (by omega), by rw [bZ]; exact nt (Yj _ _) (by omega)⟩
 have dH : Je (Nat.gcd n.natAbs d) <= 549755813888 := nt (Qc (Nat.le_of_dvd (by omega) cO)) hd
 generalize Nat.gcd n.natAbs d = G at *
 generalize mkRat n d = q at *
 have aS := fun w => Jbh n G w (by omega) (by omega) bX bW
 have bT := fun w => Yo d G w (by omega) (by omega) bX
 have aT := fun w => Jbi q w cP
 rw [<- bY] at aS
 rw [<- bZ] at bT
 clear bY bZ bW cO bX cP
 unfold Jg at aO aP aS bT aT ⊢
 unfold Qj at aO aP aS aT ⊢
 unfold qV at aT ⊢
 rw [Int.natAbs_natCast] at aO aP
 generalize decide (n < 0) = ng at *
 generalize decide (q.num < 0) = nq at *
 generalize decide ((d : Int) < 0) = nd at *
 have HFR := lh aO
 have HGC := lh aP
 have HPA := lh aS
 have HOV := lh bT
 have HPK := lh aT
 clear aO aP aS bT aT
 obtain ⟨b0, b1, b2, hB, hZ⟩ := bx3 w 39 #[.bool ng, .int .u64 (lo n.natAbs : Int), .string (mo n.natAbs)] 37 #[.int .u64 (lo d : Int), .string (mo d)] 41 #[.bool false, .int .u64 0, .string ⟨#[]⟩, .int .u64 0, .string ⟨#[]⟩]
 have tT := hT.next hB
 go_enter Tryz.func100, Tryz.ntmps100
 go_upto_region 1 with fail
 generalize (((w.alloc (.cells #[.bool ng, .int .u64 (lo n.natAbs : Int), .string (mo n.natAbs)] 39)).alloc (.cells #[.int .u64 (lo d : Int), .string (mo d)] 37)).alloc (.cells #[.bool false, .int .u64 0, .string ⟨#[]⟩, .int .u64 0, .string ⟨#[]⟩] 41)) = W at *
 go_cut [5] (fun v5 wc => Jdu W 37 #[.int .u64 (lo G : Int), .string (mo G)] v5 wc)
 case first =>
  obtain ⟨o0, o9, dM⟩ := b0.c3; have aU := b0.lt; have c0 := b0.drew; have dP := c0.lt; obtain ⟨dN, dO⟩ := b1.c2; have aV := b1.lt; have c1 := b1.drew; have s9 := c1.lt; have hc := Jt W; have tT : Tab W.drew := tT; go_region_held3 (fun w' => w'.cell? ⟨w.heap.size, 0, none⟩ = some (.bool ng) /\ w'.cell? ⟨w.heap.size, 1, none⟩ = some (.int .u64 (lo n.natAbs : Int)) /\ w'.cell? ⟨w.heap.size, 2, none⟩ = some (.string (mo n.natAbs)) /\ w'.cell? ⟨w.heap.size + 1, 0, none⟩ = some (.int .u64 (lo d : Int)) /\ w'.cell? ⟨w.heap.size + 1, 1, none⟩ = some (.string (mo d))) (go_keep) (first | ((first | (go_at_call 53; refine (HFR.out _).mono ?_; rintro e w1 ⟨rfl, dL⟩) | (go_at_call 80; (first | refine (HGC.out _ tT).mono ?_ | refine (HGC.out _ (tT.next (Jb _ _))).mono ?_ | refine (HGC.out _ (tT.next (Jo _ _ _))).mono ?_); rintro e w2 ⟨rfl, dL⟩; have lst := True.intro)); (try clear j0 j6 j7); obtain ⟨c0, j0, j6, j7⟩ := c0.zc3 dL; (try clear dP); have dP := c0.lt; (try clear j8 j9); obtain ⟨c1, j8, j9⟩ := c1.zc2 dL; (try clear s9); have s9 := c1.lt; (try have ca := ca.yy dL); (first | have tT := tT.next dL | have tT := (tT.next (Jb _ _)).next dL | have tT := (tT.next (Jo _ _ _)).next dL); (first | have hc := Ja hc dL | (have p9 := Xn hc dL; obtain ⟨ca, aN, hc⟩ := p9) | (have p9 := Xr hc dL; obtain ⟨ca, aN, hc⟩ := p9)); (try have cA := Jq aU aN); (try have cB := Jq aV aN); (try (clear lst; (try (have dI := ca.lt; obtain ⟨cT, cU, cZ, dA, dB, dC⟩ := ca.f2))))))
  all_goals
   go_wp2
   go_meet
   (first | exact Jgn hc ca aN | exact Jgn (Ja hc (Jb _ _)) (Blk.new _ _ _) hc.size | exact ⟨_, rfl, hc.size, Blk.new _ _ _, Ja hc (Jb _ _)⟩)
 case rest =>
  obtain ⟨g, rfl, dJ, b5, aW⟩ := hcut
  clear HFR HGC
  have dD : W.heap.size = w.heap.size + 1 + 1 + 1 := hZ.out
  have b0 := b0.below aW b0.lt
  have b1 := b1.below aW b1.lt
  have b2 := b2.below aW b2.lt
  have aL := Ja hB aW
  have ne0 : ¬ g = w.heap.size + 1 + 1 := by omega
  have ne1 : ¬ w.heap.size + 1 + 1 = g := by omega
  have ne2 := neA w.heap.size
  have ne3 := neB w.heap.size
  have ne4 := neC w.heap.size
  have ne5 := neD w.heap.size
  clear aW hB dD hZ tT hT
  rename_i wc
  go_wp2_with fail
  obtain ⟨o0, o9, dM⟩ := b0.c3; have aU := b0.lt; have c0 := b0.drew; have dP := c0.lt; obtain ⟨dN, dO⟩ := b1.c2; have aV := b1.lt; have c1 := b1.drew; have s9 := c1.lt; obtain ⟨dE, dF⟩ := b5.c2; have dK := b5.lt; have c5 := b5.drew; have aQ := c5.lt; have c2 := b2.drew; have dQ := c2.lt; have hc := Jt wc; go_region_held3 (fun w' => w'.cell? ⟨w.heap.size, 0, none⟩ = some (.bool ng) /\ w'.cell? ⟨w.heap.size, 1, none⟩ = some (.int .u64 (lo n.natAbs : Int)) /\ w'.cell? ⟨w.heap.size, 2, none⟩ = some (.string (mo n.natAbs)) /\ w'.cell? ⟨w.heap.size + 1, 0, none⟩ = some (.int .u64 (lo d : Int)) /\ w'.cell? ⟨w.heap.size + 1, 1, none⟩ = some (.string (mo d)) /\ w'.cell? ⟨g, 0, none⟩ = some (.int .u64 (lo G : Int)) /\ w'.cell? ⟨g, 1, none⟩ = some (.string (mo G))) (go_keep) (first | ((first | (go_at_call 85; refine (HPA.out _).mono ?_; rintro e w1 ⟨rfl, dL⟩) | (go_at_call 82; refine (HOV.out _).mono ?_; rintro e w2 ⟨rfl, dL⟩) | (go_at_call 84; refine (HPK.out _).mono ?_; rintro e w3 ⟨rfl, dL⟩; have lst := True.intro)); (try clear j0 j6 j7); obtain ⟨c0, j0, j6, j7⟩ := c0.zc3 dL; (try clear dP); have dP := c0.lt; (try clear j8 j9); obtain ⟨c1, j8, j9⟩ := c1.zc2 dL; (try clear s9); have s9 := c1.lt; (try clear aD aE); obtain ⟨c5, aD, aE⟩ := c5.zc2 dL; (try clear aQ); have aQ := c5.lt; have c2 := c2.yy dL; (try clear dQ); have dQ := c2.lt; have hc := Ja hc dL; (try (clear lst; obtain ⟨aY, aZ, bA, bB, bC, bD, bE, bF, bG, bH, aF, aG, aH, aI, aJ⟩ := c2.f5))))
  all_goals
   go_wp2
   refine bodyPost_ret (v := .agg #[.bool nq, .int .u64 (lo q.num.natAbs : Int), .string (mo q.num.natAbs), .int .u64 (lo (qden q) : Int), .string (mo (qden q))]) (by simp [results, Tryz.results100, go_sem, aF, aG, aH, aI, aJ]) rfl ?_
   exact ⟨rfl, Uy (Ja aL hc) (by omega) _ _ _ _ _⟩
theorem Jqb (n d : Int) (h : d < 0) : Rat.divInt n d = mkRat (-n) d.natAbs := by
 cases d with
 | ofNat d => exact absurd h (by simp)
 | negSucc d =>
  show Rat.normalize (-n) (d + 1) (Nat.succ_ne_zero d) = _
  rw [Rat.normalize_eq_mkRat]
  rfl
theorem Jqa (n d : Int) (h : 0 <= d) : Rat.divInt n d = mkRat n d.natAbs := by
 cases d with
 | ofNat d => rfl
 | negSucc d => exact absurd h (by simp)
theorem Jp9 (n : Int) (w : World) : Calls Tryz.prog 51 #[Qj n, Qj 0] w (Ret (.tuple #[qV 0, .bool false]) w) := by
 have hs := lh (fun w => Vy 0 w (by decide))
 have e : qV 0 = .agg #[.bool false, .int .u64 0, .string ⟨#[]⟩, .int .u64 0, .string ⟨#[]⟩] := rfl
 rw [e]
 clear e
 unfold Qj at hs ⊢
 generalize decide (n < 0) = ng at *
 obtain ⟨nd, dR⟩ : ∃ nd, decide ((0 : Int) < 0) = nd := ⟨_, rfl⟩
 rw [dR] at hs ⊢
 clear dR
 have es : Int.sign 0 = 0 := rfl
 rw [es] at hs
 clear es
 generalize Int.natAbs 0 = d at *
 generalize n.natAbs = a at *
 obtain ⟨b0, b1, b2, hB, hZ⟩ := bx3 w 39 #[.bool ng, .int .u64 (lo a : Int), .string (mo a)] 39 #[.bool nd, .int .u64 (lo d : Int), .string (mo d)] 41 #[.bool false, .int .u64 0, .string ⟨#[]⟩, .int .u64 0, .string ⟨#[]⟩]
 go_enter Tryz.func51, Tryz.ntmps51
 go_wp2_with fail
 generalize (((w.alloc (.cells #[.bool ng, .int .u64 (lo a : Int), .string (mo a)] 39)).alloc (.cells #[.bool nd, .int .u64 (lo d : Int), .string (mo d)] 39)).alloc (.cells #[.bool false, .int .u64 0, .string ⟨#[]⟩, .int .u64 0, .string ⟨#[]⟩] 41)) = W at *
 refine (hs.out _).mono ?_
 rintro e w1 ⟨rfl, p9⟩
 have aL := Ja hB p9
 (try clear cD cE cF cG cH cI cJ cK cL cN bI bJ bK bL bM); obtain ⟨b2, cD, cE, cF, cG, cH, cI, cJ, cK, cL, cN, bI, bJ, bK, bL, bM⟩ := b2.zf5 p9
 go_wp2
 refine bodyPost_ret (v := .tuple #[.agg #[.bool false, .int .u64 0, .string ⟨#[]⟩, .int .u64 0, .string ⟨#[]⟩], .bool false]) (by simp [results, Tryz.results51, go_sem, bI, bJ, bK, bL, bM]) rfl ?_
 exact ⟨rfl, Uy aL (by omega) _ _ _ _ _⟩
theorem Jp7 (n d : Int) (w : World) (hn : Je n.natAbs <= 549755813888) (hd : Je d.natAbs <= 549755813888) (aK : 0 < d) (hT : Tab w) :
  Calls Tryz.prog 51 #[Qj n, Qj d] w (Ret (.tuple #[qV (mkRat n d.natAbs), .bool true]) w) := by
 have hs := fun w => Vy d w (by omega)
 rw [Int.sign_eq_one_of_pos aK] at hs
 have aM := fun w => Ja3 d w
 have aC := fun w (hT : Tab w) => Jo5 n d.natAbs w hn hd (by omega) hT
 generalize mkRat n d.natAbs = q at *
 unfold Jg at aM aC
 unfold Qj at hs aM aC ⊢
 unfold qV at aC ⊢
 generalize decide (n < 0) = ng at *
 generalize decide (q.num < 0) = nq at *
 generalize decide (d < 0) = nd at *
 clear hn hd aK
 generalize d.natAbs = b at *
 generalize n.natAbs = a at *
 have HS := lh hs
 have HAB := lh aM
 have HLO := lh aC
 clear hs aM aC
 obtain ⟨b0, b1, b2, hB, hZ⟩ := bx3 w 39 #[.bool ng, .int .u64 (lo a : Int), .string (mo a)] 39 #[.bool nd, .int .u64 (lo b : Int), .string (mo b)] 41 #[.bool false, .int .u64 0, .string ⟨#[]⟩, .int .u64 0, .string ⟨#[]⟩]
 have tT := hT.next hB
 go_enter Tryz.func51, Tryz.ntmps51
 go_wp2_with fail
 generalize (((w.alloc (.cells #[.bool ng, .int .u64 (lo a : Int), .string (mo a)] 39)).alloc (.cells #[.bool nd, .int .u64 (lo b : Int), .string (mo b)] 39)).alloc (.cells #[.bool false, .int .u64 0, .string ⟨#[]⟩, .int .u64 0, .string ⟨#[]⟩] 41)) = W at *
 refine (HS.out _).mono ?_
 rintro e w1 ⟨rfl, p9⟩
 have aL := Ja hB p9
 (try clear o0 o9 dM); obtain ⟨b0, o0, o9, dM⟩ := b0.zc3 p9; (try clear dN dO aA); obtain ⟨b1, dN, dO, aA⟩ := b1.zc3 p9
 have b2 := b2.below p9 b2.lt
 have tT := tT.next p9
 clear p9 hB hT
 go_wp2_with fail
 refine (HS.out _).mono ?_
 rintro e w2 ⟨rfl, aB⟩
 have bU := Ja aL aB
 have b0 := b0.below aB b0.lt
 have b1 := b1.below aB b1.lt
 have b2 := b2.below aB b2.lt
 have tT := tT.next aB
 clear aB aL HS
 have ne2 := neA w.heap.size
 have ne3 := neB w.heap.size
 have ne4 := neC w.heap.size
 have ne5 := neD w.heap.size
 go_wp2_with fail
 obtain ⟨o0, o9, dM⟩ := b0.c3; have aU := b0.lt; have c0 := b0.drew; have dP := c0.lt; obtain ⟨dN, dO, aA⟩ := b1.c3; have aV := b1.lt; have c1 := b1.drew; have s9 := c1.lt; have c2 := b2.drew; have dQ := c2.lt; have hc := Jt w2; have tT : Tab w2.drew := tT; go_region_held3 (fun w' => w'.cell? ⟨w.heap.size, 0, none⟩ = some (.bool ng) /\ w'.cell? ⟨w.heap.size, 1, none⟩ = some (.int .u64 (lo a : Int)) /\ w'.cell? ⟨w.heap.size, 2, none⟩ = some (.string (mo a)) /\ w'.cell? ⟨w.heap.size + 1, 0, none⟩ = some (.bool nd) /\ w'.cell? ⟨w.heap.size + 1, 1, none⟩ = some (.int .u64 (lo b : Int)) /\ w'.cell? ⟨w.heap.size + 1, 2, none⟩ = some (.string (mo b))) (go_keep) (first | ((first | (go_at_call 101; refine (HAB.out _).mono ?_; rintro e w1 ⟨rfl, dL⟩) | (go_at_call 100; (first | refine (HLO.out _ tT).mono ?_ | refine (HLO.out _ (tT.next (Jb _ _))).mono ?_ | refine (HLO.out _ (tT.next (Jo _ _ _))).mono ?_); rintro e w2 ⟨rfl, dL⟩; have lst := True.intro)); (try clear j0 j6 j7); obtain ⟨c0, j0, j6, j7⟩ := c0.zc3 dL; (try clear dP); have dP := c0.lt; (try clear j8 j9 y9); obtain ⟨c1, j8, j9, y9⟩ := c1.zc3 dL; (try clear s9); have s9 := c1.lt; have c2 := c2.yy dL; (try clear dQ); have dQ := c2.lt; (first | have tT := tT.next dL | have tT := (tT.next (Jb _ _)).next dL | have tT := (tT.next (Jo _ _ _)).next dL); have hc := Ja hc dL; (try (clear lst; obtain ⟨aY, aZ, bA, bB, bC, bD, bE, bF, bG, bH, aF, aG, aH, aI, aJ⟩ := c2.f5))))
 all_goals
  go_wp2
  refine bodyPost_ret (v := .tuple #[.agg #[.bool nq, .int .u64 (lo q.num.natAbs : Int), .string (mo q.num.natAbs), .int .u64 (lo (qden q) : Int), .string (mo (qden q))], .bool true]) (by simp [results, Tryz.results51, go_sem, aF, aG, aH, aI, aJ]) rfl ?_
  exact ⟨rfl, Uy (Ja bU hc) (by omega) _ _ _ _ _⟩
theorem Jp8 (n d : Int) (w : World) (hn : Je n.natAbs <= 549755813888) (hd : Je d.natAbs <= 549755813888) (aK : d < 0) (hT : Tab w) :
  Calls Tryz.prog 51 #[Qj n, Qj d] w (Ret (.tuple #[qV (mkRat (-n) d.natAbs), .bool true]) w) := by
 have hs := fun w => Vy d w (by omega)
 rw [Int.sign_eq_neg_one_of_neg aK] at hs
 have aM := fun w => Ja3 d w
 have bV := fun w => Jqf n w (by omega)
 have aC := fun w (hT : Tab w) => Jo5 (-n) d.natAbs w (by rw [Int.natAbs_neg]; exact hn) hd (by omega) hT
 generalize mkRat (-n) d.natAbs = q at *
 unfold Jg at aM aC
 unfold Qj at hs aM aC bV ⊢
 unfold qV at aC ⊢
 rw [Int.natAbs_neg] at aC bV
 generalize decide (n < 0) = ng at *
 generalize decide (-n < 0) = nm at *
 generalize decide (q.num < 0) = nq at *
 generalize decide (d < 0) = nd at *
 clear hn hd aK
 generalize d.natAbs = b at *
 generalize n.natAbs = a at *
 have HS := lh hs
 have HAB := lh aM
 have HLO := lh aC
 have HNG := lh bV
 clear hs aM aC bV
 obtain ⟨b0, b1, b2, hB, hZ⟩ := bx3 w 39 #[.bool ng, .int .u64 (lo a : Int), .string (mo a)] 39 #[.bool nd, .int .u64 (lo b : Int), .string (mo b)] 41 #[.bool false, .int .u64 0, .string ⟨#[]⟩, .int .u64 0, .string ⟨#[]⟩]
 have tT := hT.next hB
 have TW := lh hT
 go_enter Tryz.func51, Tryz.ntmps51
 go_wp2_with fail
 generalize (((w.alloc (.cells #[.bool ng, .int .u64 (lo a : Int), .string (mo a)] 39)).alloc (.cells #[.bool nd, .int .u64 (lo b : Int), .string (mo b)] 39)).alloc (.cells #[.bool false, .int .u64 0, .string ⟨#[]⟩, .int .u64 0, .string ⟨#[]⟩] 41)) = W at *
 refine (HS.out _).mono ?_
 rintro e w1 ⟨rfl, p9⟩
 have aL := Ja hB p9
 (try clear o0 o9 dM); obtain ⟨b0, o0, o9, dM⟩ := b0.zc3 p9; (try clear dN dO aA); obtain ⟨b1, dN, dO, aA⟩ := b1.zc3 p9
 have b2 := b2.below p9 b2.lt
 have tT := tT.next p9
 clear p9 hB hT
 go_wp2_with fail
 refine (HS.out _).mono ?_
 rintro e w2 ⟨rfl, aB⟩
 have bU := Ja aL aB
 (try clear o0 o9 dM); obtain ⟨b0, o0, o9, dM⟩ := b0.zc3 aB
 have b1 := b1.below aB b1.lt
 have b2 := b2.below aB b2.lt
 have tT := tT.next aB
 clear aB aL HS dN dO aA
 go_wp2_with fail
 refine (HNG.out _).mono ?_
 rintro e w3 ⟨rfl, aR⟩
 have cR := Ja bU aR
 (try clear o0 o9 dM bN bO bP bQ bR bS); obtain ⟨b0, o0, o9, dM, bN, bO, bP, bQ, bR, bS⟩ := b0.zf3 aR
 have b1 := b1.below aR b1.lt
 have b2 := b2.below aR b2.lt
 have tT := tT.next aR
 have ne2 := neA w.heap.size
 have ne3 := neB w.heap.size
 have ne4 := neC w.heap.size
 have ne5 := neD w.heap.size
 have s1 := ((b0.set_ 0 (.bool nm)).set_ 1 (.int .u64 (lo a : Int))).set_ 2 (.string (mo a))
 have s2 := ((b1.far (p := ⟨w.heap.size, 0, none⟩) (by simp) (.bool nm)).far (p := ⟨w.heap.size, 1, none⟩) (by simp) (.int .u64 (lo a : Int))).far (p := ⟨w.heap.size, 2, none⟩) (by simp) (.string (mo a))
 have s3 := ((b2.far (p := ⟨w.heap.size, 0, none⟩) (by simp; omega) (.bool nm)).far (p := ⟨w.heap.size, 1, none⟩) (by simp; omega) (.int .u64 (lo a : Int))).far (p := ⟨w.heap.size, 2, none⟩) (by simp; omega) (.string (mo a))
 have s4 := Kw (g := w.heap.size) cR zd (.bool nm) (.int .u64 (lo a : Int)) (.string (mo a))
 have s5 : Tab (((w3.setCell ⟨w.heap.size, 0, none⟩ (.bool nm)).setCell ⟨w.heap.size, 1, none⟩ (.int .u64 (lo a : Int))).setCell ⟨w.heap.size, 2, none⟩ (.string (mo a))) := TW.out.next s4
 simp at s1
 clear aR HNG b0 b1 b2 tT cR bU
 have HC := lh (And.intro s1 (And.intro s2 (And.intro s3 (And.intro s4 s5))))
 clear s1 s2 s3 s4 s5
 go_wp2_with fail
 obtain ⟨b0, b1, b2, dG, tT⟩ := HC.out
 clear HC
 generalize ((w3.setCell ⟨w.heap.size, 0, none⟩ (.bool nm)).setCell ⟨w.heap.size, 1, none⟩ (.int .u64 (lo a : Int))).setCell ⟨w.heap.size, 2, none⟩ (.string (mo a)) = w4 at *
 clear o0 o9 dM bN bO bP bQ bR bS
 obtain ⟨o0, o9, dM⟩ := b0.c3; have aU := b0.lt; have c0 := b0.drew; have dP := c0.lt; obtain ⟨dN, dO, aA⟩ := b1.c3; have aV := b1.lt; have c1 := b1.drew; have s9 := c1.lt; have c2 := b2.drew; have dQ := c2.lt; have hc := Jt w4; have tT : Tab w4.drew := tT; go_region_held3 (fun w' => w'.cell? ⟨w.heap.size, 0, none⟩ = some (.bool nm) /\ w'.cell? ⟨w.heap.size, 1, none⟩ = some (.int .u64 (lo a : Int)) /\ w'.cell? ⟨w.heap.size, 2, none⟩ = some (.string (mo a)) /\ w'.cell? ⟨w.heap.size + 1, 0, none⟩ = some (.bool nd) /\ w'.cell? ⟨w.heap.size + 1, 1, none⟩ = some (.int .u64 (lo b : Int)) /\ w'.cell? ⟨w.heap.size + 1, 2, none⟩ = some (.string (mo b))) (go_keep) (first | ((first | (go_at_call 101; refine (HAB.out _).mono ?_; rintro e w1 ⟨rfl, dL⟩) | (go_at_call 100; (first | refine (HLO.out _ tT).mono ?_ | refine (HLO.out _ (tT.next (Jb _ _))).mono ?_ | refine (HLO.out _ (tT.next (Jo _ _ _))).mono ?_); rintro e w2 ⟨rfl, dL⟩; have lst := True.intro)); (try clear j0 j6 j7); obtain ⟨c0, j0, j6, j7⟩ := c0.zc3 dL; (try clear dP); have dP := c0.lt; (try clear j8 j9 y9); obtain ⟨c1, j8, j9, y9⟩ := c1.zc3 dL; (try clear s9); have s9 := c1.lt; have c2 := c2.yy dL; (try clear dQ); have dQ := c2.lt; (first | have tT := tT.next dL | have tT := (tT.next (Jb _ _)).next dL | have tT := (tT.next (Jo _ _ _)).next dL); have hc := Ja hc dL; (try (clear lst; obtain ⟨aY, aZ, bA, bB, bC, bD, bE, bF, bG, bH, aF, aG, aH, aI, aJ⟩ := c2.f5))))
 all_goals
  go_wp2
  refine bodyPost_ret (v := .tuple #[.agg #[.bool nq, .int .u64 (lo q.num.natAbs : Int), .string (mo q.num.natAbs), .int .u64 (lo (qden q) : Int), .string (mo (qden q))], .bool true]) (by simp [results, Tryz.results51, go_sem, aF, aG, aH, aI, aJ]) rfl ?_
  exact ⟨rfl, Uy (Ja dG hc) (by omega) _ _ _ _ _⟩
theorem Jqn (n d : Int) (w : World) (hn : Je n.natAbs <= 549755813888) (hd : Je d.natAbs <= 549755813888) (hT : Tab w) :
  Calls Tryz.prog 51 #[Qj n, Qj d] w (Ret (.tuple #[qV (Rat.divInt n d), .bool (decide (d ≠ 0))]) w) := by
 rcases Int.lt_trichotomy d 0 with h | h | h
 ·rw [Jqb n d h, decide_eq_true (show d ≠ 0 by omega)]
  exact Jp8 n d w hn hd h hT
 ·subst h
  have e : Rat.divInt n 0 = 0 := Rat.divInt_zero n
  rw [e, decide_eq_false (by simp)]
  exact Jp9 n w
 rw [Jqa n d (by omega), decide_eq_true (show d ≠ 0 by omega)]
 exact Jp7 n d w hn hd h hT
