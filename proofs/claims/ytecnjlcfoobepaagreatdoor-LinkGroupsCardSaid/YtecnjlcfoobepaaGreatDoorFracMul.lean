import Derived.Test.YtecnjlcfoobepaaGreatDoorFracM
namespace Go.Proofs.YtecnjlcfoobepaaGreatDoor
set_option maxRecDepth 100000
set_option maxHeartbeats 2000000
open Go.RowKit
set_option linter.all false
attribute [local irreducible] lo mo Calls
set_option maxRecDepth 100000 in
set_option maxHeartbeats 1000000 in
theorem Jnz (a b : Rat) (w : World) (ha : QS 549755813888 a) (hb : QS 549755813888 b) (bV : a.den = 1) (x9 : b.den = 1) :
  Calls Tryz.prog 37 #[qV a, qV b] w (Ret (qV (a * b)) w) := by
 have aY := fun w => Qu a w (ha.mono (by omega))
 have aV := fun w => Qu b w (hb.mono (by omega))
 rw [decide_eq_true bV] at aY
 rw [decide_eq_true x9] at aV
 have bW := fun w => Jcs a.num b.num w (by have := ha.1; omega) (by have := hb.1; omega)
 obtain ⟨q1, q2⟩ := Jfo a b bV x9
 have q3 := (Yb (a * b)).2 q2
 have q4 := (Yb a).2 bV
 have q5 := (Yb b).2 x9
 rw [<- q1] at bW
 unfold qV at aY aV ⊢
 rw [q4] at aY
 rw [q5] at aV
 rw [q3, q4, q5, Qc 0 (by omega), Jx 0 (by omega)]
 rw [Qc 0 (by omega), Jx 0 (by omega)] at aY aV
 unfold Qa at bW
 clear q1 q2 q3 q4 q5 ha hb bV x9
 generalize decide (a.num < 0) = na at *
 generalize decide (b.num < 0) = nb at *
 generalize decide ((a * b).num < 0) = nq at *
 generalize (a * b).num.natAbs = Q at *
 generalize a.num.natAbs = A at *
 generalize b.num.natAbs = B at *
 have HWA := lh aY
 have HWB := lh aV
 have HMU := lh bW
 clear aY aV bW
 obtain ⟨b0, b1, b2, hB, hZ⟩ := bx3 w 56 #[.bool na, .int .u64 (lo A : Int), .string (mo A), .int .u64 ((0 : Nat) : Int), .string ⟨#[]⟩] 56 #[.bool nb, .int .u64 (lo B : Int), .string (mo B), .int .u64 ((0 : Nat) : Int), .string ⟨#[]⟩] 56 #[.bool false, .int .u64 0, .string ⟨#[]⟩, .int .u64 0, .string ⟨#[]⟩]
 go_enter Tryz.func37, Tryz.ntmps37
 go_wp2_with fail
 generalize (((w.alloc (.cells #[.bool na, .int .u64 (lo A : Int), .string (mo A), .int .u64 ((0 : Nat) : Int), .string ⟨#[]⟩] 56)).alloc (.cells #[.bool nb, .int .u64 (lo B : Int), .string (mo B), .int .u64 ((0 : Nat) : Int), .string ⟨#[]⟩] 56)).alloc (.cells #[.bool false, .int .u64 0, .string ⟨#[]⟩, .int .u64 0, .string ⟨#[]⟩] 56)) = W at *
 refine (HWA.out _).mono ?_
 rintro e w1 ⟨rfl, x9⟩
 have dG := Ja hB x9
 (try clear aI aJ aK aL aM); obtain ⟨b0, aI, aJ, aK, aL, aM⟩ := b0.zc5 x9; (try clear aN aO aP aQ aR); obtain ⟨b1, aN, aO, aP, aQ, aR⟩ := b1.zc5 x9
 have b2 := b2.below x9 b2.lt
 go_wp2_with fail
 refine (HWB.out _).mono ?_
 rintro e w2 ⟨rfl, bC⟩
 have dH := Ja dG bC
 (try clear aI aJ aK aL aM); obtain ⟨b0, aI, aJ, aK, aL, aM⟩ := b0.zc5 bC; (try clear aN aO aP aQ aR); obtain ⟨b1, aN, aO, aP, aQ, aR⟩ := b1.zc5 bC
 have b2 := b2.below bC b2.lt
 go_wp2_with fail
 refine (HMU.out _).mono ?_
 rintro e w3 ⟨rfl, dE⟩
 have dI := Ja dH dE
 (try clear cD cE cF cG cH cI cJ cK cL cM bP bQ bR bS bT); obtain ⟨b2, cD, cE, cF, cG, cH, cI, cJ, cK, cL, cM, bP, bQ, bR, bS, bT⟩ := b2.zf5 dE
 go_wp2
 refine bodyPost_ret (v := .agg #[.bool nq, .int .u64 (lo Q : Int), .string (mo Q), .int .u64 ((0 : Nat) : Int), .string ⟨#[]⟩]) (by simp [results, Tryz.results37, go_sem, bP, bQ, bR, bS, bT]) rfl ?_
 exact ⟨rfl, Qy dI (by omega) _ _ _ _ _⟩
set_option maxRecDepth 100000 in
set_option maxHeartbeats 2000000 in
theorem Jgh (a b : Rat) (w : World) (ha : QS 549755813888 a) (hb : QS 549755813888 b) (hw : (decide (a.den = 1) && decide (b.den = 1)) = false) (hT : Tab w) :
  Calls Tryz.prog 37 #[qV a, qV b] w (Ret (qV (a * b)) w) := by
 have aY := fun w => Qu a w (ha.mono (by omega))
 have aV := fun w => Qu b w (hb.mono (by omega))
 have bX := fun w => Kg a w (ha.mono (by omega))
 have bY := fun w => Kg b w (hb.mono (by omega))
 have bD := fun w => Qh false a.den w (by have := ha.2; omega)
 have bE := fun w => Qh false b.den w (by have := hb.2; omega)
 rw [show signed false a.den = (a.den : Int) from rfl] at bD
 rw [show signed false b.den = (b.den : Int) from rfl] at bE
 have bF := fun w (hT : Tab w) => Uu a.num b.den w ha.1 (by rw [Int.natAbs_natCast]; exact hb.2) hT
 have bG := fun w (hT : Tab w) => Uu b.num a.den w hb.1 (by rw [Int.natAbs_natCast]; exact ha.2) hT
 rw [Int.natAbs_natCast] at bF bG
 obtain ⟨q1, q2⟩ := Jfp a b rfl rfl
 have dF : QS 1099511627776 (a * b) := (ha.mul hb).mono (by omega)
 have g1 := Nat.gcd_dvd_left a.num.natAbs b.den
 have g2 := Nat.gcd_dvd_right a.num.natAbs b.den
 have g3 := Nat.gcd_dvd_left b.num.natAbs a.den
 have g4 := Nat.gcd_dvd_right b.num.natAbs a.den
 have g5 : Nat.gcd a.num.natAbs b.den ≠ 0 := fun h => b.den_nz (Nat.gcd_eq_zero_iff.1 h).2
 have g6 : Nat.gcd b.num.natAbs a.den ≠ 0 := fun h => a.den_nz (Nat.gcd_eq_zero_iff.1 h).2
 have g7 := nt (Qb (Nat.le_of_dvd b.den_pos g2)) hb.2
 have g8 := nt (Qb (Nat.le_of_dvd a.den_pos g4)) ha.2
 generalize Nat.gcd a.num.natAbs b.den = G at *
 generalize Nat.gcd b.num.natAbs a.den = H at *
 have bZ := fun w => Jbg a.num G w (by have := ha.1; omega) (by omega) g5 g1
 have cA := fun w => Jbg b.num H w (by have := hb.1; omega) (by omega) g6 g3
 have cN := fun w => Yt a.den H w (by have := ha.2; omega) (by omega) g6
 have cO := fun w => Yt b.den G w (by have := hb.2; omega) (by omega) g5
 have cB := fun w => Jcs (a.num / (G : Int)) (b.num / (H : Int)) w (by have := ha.1; have := Jbk g1; omega) (by have := hb.1; have := Jbk g3; omega)
 have cC := fun w => Jhl (a.den / H) (b.den / G) w (by have := ha.2; have := Zn a.den H; omega) (by have := hb.2; have := Zn b.den G; omega)
 have bU := fun w => Jbh (a * b) w dF
 rw [<- q1] at cB
 rw [<- q2] at cC
 clear q1 q2 dF g1 g2 g3 g4 g5 g6 g7 g8
 unfold Jj at bX bY bD bE bF bG bZ cA cN cO cC bU
 unfold Qa at bD bE bF bG bZ cA cB bU
 unfold qV at aY aV bX bY bU ⊢
 rw [Int.natAbs_natCast] at bD bE bF bG
 generalize a.num / (G : Int) = p1 at *
 generalize b.num / (H : Int) = p2 at *
 generalize a.den / H = d1 at *
 generalize b.den / G = d2 at *
 generalize a * b = q at *
 generalize decide (a.den = 1) = wa at *
 generalize decide (b.den = 1) = wb at *
 generalize decide (a.num < 0) = na at *
 generalize decide (b.num < 0) = nb at *
 generalize decide (q.num < 0) = nq at *
 generalize decide (p1 < 0) = np1 at *
 generalize decide (p2 < 0) = np2 at *
 generalize decide ((a.den : Int) < 0) = nda at *
 generalize decide ((b.den : Int) < 0) = ndb at *
 clear ha hb
 generalize qden a = ea at *
 generalize qden b = eb at *
 generalize qden q = eq at *
 generalize a.num.natAbs = A at *
 generalize b.num.natAbs = B at *
 generalize q.num.natAbs = Q at *
 generalize p1.natAbs = P1 at *
 generalize p2.natAbs = P2 at *
 generalize a.den = da at *
 generalize b.den = db at *
 generalize q.den = dq at *
 have HWA := lh aY
 have HWB := lh aV
 have HDA := lh bX
 have HDB := lh bY
 have HFA := lh bD
 have HFB := lh bE
 have HGG := lh bF
 have HGH := lh bG
 have HPA := lh bZ
 have HPB := lh cA
 have HOA := lh cN
 have HOB := lh cO
 have HM1 := lh cB
 have HM2 := lh cC
 have HPK := lh bU
 clear aY aV bX bY bD bE bF bG bZ cA cN cO cB cC bU
 obtain ⟨b0, b1, b2, hB, hZ⟩ := bx3 w 56 #[.bool na, .int .u64 (lo A : Int), .string (mo A), .int .u64 (lo ea : Int), .string (mo ea)] 56 #[.bool nb, .int .u64 (lo B : Int), .string (mo B), .int .u64 (lo eb : Int), .string (mo eb)] 56 #[.bool false, .int .u64 0, .string ⟨#[]⟩, .int .u64 0, .string ⟨#[]⟩]
 have tT := hT.next hB
 go_enter Tryz.func37, Tryz.ntmps37
 go_upto_region 1 with fail
 generalize (((w.alloc (.cells #[.bool na, .int .u64 (lo A : Int), .string (mo A), .int .u64 (lo ea : Int), .string (mo ea)] 56)).alloc (.cells #[.bool nb, .int .u64 (lo B : Int), .string (mo B), .int .u64 (lo eb : Int), .string (mo eb)] 56)).alloc (.cells #[.bool false, .int .u64 0, .string ⟨#[]⟩, .int .u64 0, .string ⟨#[]⟩] 56)) = W at *
 have eB : W.heap.size = w.heap.size + 1 + 1 + 1 := hZ.out
 go_cut [12] (fun v wc => v = .bool false /\ Below W.heap.size W wc)
 case first =>
  obtain ⟨aI, aJ, aK, aL, aM⟩ := b0.c5; obtain ⟨aN, aO, aP, aQ, aR⟩ := b1.c5
  go_wp2_with fail
  refine (HWA.out _).mono ?_
  rintro e w1 ⟨rfl, x9⟩
  (try clear aI aJ aK aL aM); obtain ⟨b0, aI, aJ, aK, aL, aM⟩ := b0.zc5 x9; (try clear aN aO aP aQ aR); obtain ⟨b1, aN, aO, aP, aQ, aR⟩ := b1.zc5 x9
  cases wa with
  | true =>
   have aV : wb = false := by simpa using hw
   subst aV
   go_wp2_with fail
   refine (HWB.out _).mono ?_
   rintro e w2 ⟨rfl, bC⟩
   go_wp2
   go_meet
   exact ⟨rfl, Ja x9 bC⟩
  | false =>
   go_wp2
   go_meet
   exact ⟨rfl, x9⟩
 case rest =>
  obtain ⟨rfl, bB⟩ := hcut
  rename World => wc
  clear HWA HWB hw
  have b0 := b0.below bB b0.lt
  have b1 := b1.below bB b1.lt
  have b2 := b2.below bB b2.lt
  have tT := tT.next bB
  go_upto_region 3 with fail
  go_cut [5] (fun v wd => Jb6 wc 52 #[.int .u64 (lo G : Int), .string (mo G)] v wd)
  case first =>
   obtain ⟨aI, aJ, aK, aL, aM⟩ := b0.c5; have aZ := b0.lt; have c0 := b0.drew; have aC := c0.lt; obtain ⟨aN, aO, aP, aQ, aR⟩ := b1.c5; have bA := b1.lt; have c1 := b1.drew; have aD := c1.lt; have hc := Jf wc; have tT : Tab wc.drew := tT; go_region_held3 (fun w' => w'.cell? ⟨w.heap.size, 0, none⟩ = some (.bool na) /\ w'.cell? ⟨w.heap.size, 1, none⟩ = some (.int .u64 (lo A : Int)) /\ w'.cell? ⟨w.heap.size, 2, none⟩ = some (.string (mo A)) /\ w'.cell? ⟨w.heap.size, 3, none⟩ = some (.int .u64 (lo ea : Int)) /\ w'.cell? ⟨w.heap.size, 4, none⟩ = some (.string (mo ea)) /\ w'.cell? ⟨w.heap.size + 1, 0, none⟩ = some (.bool nb) /\ w'.cell? ⟨w.heap.size + 1, 1, none⟩ = some (.int .u64 (lo B : Int)) /\ w'.cell? ⟨w.heap.size + 1, 2, none⟩ = some (.string (mo B)) /\ w'.cell? ⟨w.heap.size + 1, 3, none⟩ = some (.int .u64 (lo eb : Int)) /\ w'.cell? ⟨w.heap.size + 1, 4, none⟩ = some (.string (mo eb))) (go_keep) (first | (go_at_call 67; refine (HDB.out _).mono ?_; rintro e w1 ⟨rfl, aE⟩; (try clear j6 j7 j8 j9 o0); obtain ⟨c0, j6, j7, j8, j9, o0⟩ := c0.zc5 aE; (try clear aC); have aC := c0.lt; (try clear o5 s9 t7 t8 x8); obtain ⟨c1, o5, s9, t7, t8, x8⟩ := c1.zc5 aE; (try clear aD); have aD := c1.lt; (try have ca := ca.yy aE); (first | have tT := tT.next aE | have tT := (tT.next (Jb _ _)).next aE | have tT := (tT.next (Jl _ _ _)).next aE); (first | have hc := Ja hc aE | (have x9 := Qg hc aE; obtain ⟨ca, aG, hc⟩ := x9) | (have x9 := Qo hc aE; obtain ⟨ca, aG, hc⟩ := x9)); (try have aW := Jo aZ aG); (try have aX := Jo bA aG)) | (go_at_call 74; refine (HFB.out _).mono ?_; rintro e w2 ⟨rfl, aF⟩; (try clear j6 j7 j8 j9 o0); obtain ⟨c0, j6, j7, j8, j9, o0⟩ := c0.zc5 aF; (try clear aC); have aC := c0.lt; (try clear o5 s9 t7 t8 x8); obtain ⟨c1, o5, s9, t7, t8, x8⟩ := c1.zc5 aF; (try clear aD); have aD := c1.lt; (try have ca := ca.yy aF); (first | have tT := tT.next aF | have tT := (tT.next (Jb _ _)).next aF | have tT := (tT.next (Jl _ _ _)).next aF); (first | have hc := Ja hc aF | (have x9 := Qg hc aF; obtain ⟨ca, aG, hc⟩ := x9) | (have x9 := Qo hc aF; obtain ⟨ca, aG, hc⟩ := x9)); (try have aW := Jo aZ aG); (try have aX := Jo bA aG)) | (go_at_call 79; (first | refine (HGG.out _ tT).mono ?_ | refine (HGG.out _ (tT.next (Jb _ _))).mono ?_ | refine (HGG.out _ (tT.next (Jl _ _ _))).mono ?_); rintro e w3 ⟨rfl, aH⟩; (try clear j6 j7 j8 j9 o0); obtain ⟨c0, j6, j7, j8, j9, o0⟩ := c0.zc5 aH; (try clear aC); have aC := c0.lt; (try clear o5 s9 t7 t8 x8); obtain ⟨c1, o5, s9, t7, t8, x8⟩ := c1.zc5 aH; (try clear aD); have aD := c1.lt; (try have ca := ca.yy aH); (first | have hc := Ja hc aH | (have x9 := Qg hc aH; obtain ⟨ca, aG, hc⟩ := x9) | (have x9 := Qo hc aH; obtain ⟨ca, aG, hc⟩ := x9)); (try have aW := Jo aZ aG); (try have aX := Jo bA aG); (try (have dJ := ca.lt; obtain ⟨cP, cQ, cR, cS, cT, cU⟩ := ca.f2))))
   all_goals
    go_wp2
    go_meet
    (first | exact Jfs hc ca aG | exact Jfs (Ja hc (Jb _ _)) (Blk.new _ _ _) hc.size | exact ⟨_, rfl, hc.size, Blk.new _ _ _, Ja hc (Jb _ _)⟩)
  case rest =>
   obtain ⟨g, rfl, hg, b5, bH⟩ := hcut
   rename World => wd
   have b0 := b0.below bH b0.lt
   have b1 := b1.below bH b1.lt
   have b2 := b2.below bH b2.lt
   have tT := tT.next bH
   have dK := nt bB.size hg
   have cV := Ja bB bH
   clear bB bH hg HFB HGG
   go_upto_region 4 with fail
   go_cut [6] (fun v we => Jb6 wd 52 #[.int .u64 (lo H : Int), .string (mo H)] v we)
   case first =>
    obtain ⟨aI, aJ, aK, aL, aM⟩ := b0.c5; have aZ := b0.lt; have c0 := b0.drew; have aC := c0.lt; obtain ⟨aN, aO, aP, aQ, aR⟩ := b1.c5; have bA := b1.lt; have c1 := b1.drew; have aD := c1.lt; have hc := Jf wd; have tT : Tab wd.drew := tT; go_region_held3 (fun w' => w'.cell? ⟨w.heap.size, 0, none⟩ = some (.bool na) /\ w'.cell? ⟨w.heap.size, 1, none⟩ = some (.int .u64 (lo A : Int)) /\ w'.cell? ⟨w.heap.size, 2, none⟩ = some (.string (mo A)) /\ w'.cell? ⟨w.heap.size, 3, none⟩ = some (.int .u64 (lo ea : Int)) /\ w'.cell? ⟨w.heap.size, 4, none⟩ = some (.string (mo ea)) /\ w'.cell? ⟨w.heap.size + 1, 0, none⟩ = some (.bool nb) /\ w'.cell? ⟨w.heap.size + 1, 1, none⟩ = some (.int .u64 (lo B : Int)) /\ w'.cell? ⟨w.heap.size + 1, 2, none⟩ = some (.string (mo B)) /\ w'.cell? ⟨w.heap.size + 1, 3, none⟩ = some (.int .u64 (lo eb : Int)) /\ w'.cell? ⟨w.heap.size + 1, 4, none⟩ = some (.string (mo eb))) (go_keep) (first | (go_at_call 67; refine (HDA.out _).mono ?_; rintro e w1 ⟨rfl, aE⟩; (try clear j6 j7 j8 j9 o0); obtain ⟨c0, j6, j7, j8, j9, o0⟩ := c0.zc5 aE; (try clear aC); have aC := c0.lt; (try clear o5 s9 t7 t8 x8); obtain ⟨c1, o5, s9, t7, t8, x8⟩ := c1.zc5 aE; (try clear aD); have aD := c1.lt; (try have ca := ca.yy aE); (first | have tT := tT.next aE | have tT := (tT.next (Jb _ _)).next aE | have tT := (tT.next (Jl _ _ _)).next aE); (first | have hc := Ja hc aE | (have x9 := Qg hc aE; obtain ⟨ca, aG, hc⟩ := x9) | (have x9 := Qo hc aE; obtain ⟨ca, aG, hc⟩ := x9)); (try have aW := Jo aZ aG); (try have aX := Jo bA aG)) | (go_at_call 74; refine (HFA.out _).mono ?_; rintro e w2 ⟨rfl, aF⟩; (try clear j6 j7 j8 j9 o0); obtain ⟨c0, j6, j7, j8, j9, o0⟩ := c0.zc5 aF; (try clear aC); have aC := c0.lt; (try clear o5 s9 t7 t8 x8); obtain ⟨c1, o5, s9, t7, t8, x8⟩ := c1.zc5 aF; (try clear aD); have aD := c1.lt; (try have ca := ca.yy aF); (first | have tT := tT.next aF | have tT := (tT.next (Jb _ _)).next aF | have tT := (tT.next (Jl _ _ _)).next aF); (first | have hc := Ja hc aF | (have x9 := Qg hc aF; obtain ⟨ca, aG, hc⟩ := x9) | (have x9 := Qo hc aF; obtain ⟨ca, aG, hc⟩ := x9)); (try have aW := Jo aZ aG); (try have aX := Jo bA aG)) | (go_at_call 79; (first | refine (HGH.out _ tT).mono ?_ | refine (HGH.out _ (tT.next (Jb _ _))).mono ?_ | refine (HGH.out _ (tT.next (Jl _ _ _))).mono ?_); rintro e w3 ⟨rfl, aH⟩; (try clear j6 j7 j8 j9 o0); obtain ⟨c0, j6, j7, j8, j9, o0⟩ := c0.zc5 aH; (try clear aC); have aC := c0.lt; (try clear o5 s9 t7 t8 x8); obtain ⟨c1, o5, s9, t7, t8, x8⟩ := c1.zc5 aH; (try clear aD); have aD := c1.lt; (try have ca := ca.yy aH); (first | have hc := Ja hc aH | (have x9 := Qg hc aH; obtain ⟨ca, aG, hc⟩ := x9) | (have x9 := Qo hc aH; obtain ⟨ca, aG, hc⟩ := x9)); (try have aW := Jo aZ aG); (try have aX := Jo bA aG); (try (have dJ := ca.lt; obtain ⟨cP, cQ, cR, cS, cT, cU⟩ := ca.f2))))
    all_goals
     go_wp2
     go_meet
     (first | exact Jfs hc ca aG | exact Jfs (Ja hc (Jb _ _)) (Blk.new _ _ _) hc.size | exact ⟨_, rfl, hc.size, Blk.new _ _ _, Ja hc (Jb _ _)⟩)
   case rest =>
    obtain ⟨h, rfl, hh, b6, bI⟩ := hcut
    rename World => we
    have b0 := b0.below bI b0.lt
    have b1 := b1.below bI b1.lt
    have b2 := b2.below bI b2.lt
    have b5 := b5.below bI b5.lt
    have dL := nt cV.size hh
    have dM := Ja hB (Ja cV bI)
    clear cV bI hh HFA HGH tT
    have n0 := Jo (show w.heap.size < w.heap.size + 1 + 1 by omega) zd
    have n1 := Jo (show w.heap.size + 1 < w.heap.size + 1 + 1 by omega) zd
    have n2 := Jo (show w.heap.size + 1 + 1 < W.heap.size by omega) dK
    have n3 := Jo (show w.heap.size + 1 + 1 < W.heap.size by omega) dL
    go_upto_region 5 with fail
    obtain ⟨aI, aJ, aK, aL, aM⟩ := b0.c5; have aZ := b0.lt; have c0 := b0.drew; have aC := c0.lt; obtain ⟨aN, aO, aP, aQ, aR⟩ := b1.c5; have bA := b1.lt; have c1 := b1.drew; have aD := c1.lt; obtain ⟨dN, dO⟩ := b5.c2; have eC := b5.lt; have c5 := b5.drew; have aS := c5.lt; obtain ⟨dP, dQ⟩ := b6.c2; have eD := b6.lt; have c6 := b6.drew; have aT := c6.lt; have c2 := b2.drew; have aU := c2.lt; have hc := Jf we; go_region_held3 (fun w' => w'.cell? ⟨w.heap.size, 0, none⟩ = some (.bool na) /\ w'.cell? ⟨w.heap.size, 1, none⟩ = some (.int .u64 (lo A : Int)) /\ w'.cell? ⟨w.heap.size, 2, none⟩ = some (.string (mo A)) /\ w'.cell? ⟨w.heap.size, 3, none⟩ = some (.int .u64 (lo ea : Int)) /\ w'.cell? ⟨w.heap.size, 4, none⟩ = some (.string (mo ea)) /\ w'.cell? ⟨w.heap.size + 1, 0, none⟩ = some (.bool nb) /\ w'.cell? ⟨w.heap.size + 1, 1, none⟩ = some (.int .u64 (lo B : Int)) /\ w'.cell? ⟨w.heap.size + 1, 2, none⟩ = some (.string (mo B)) /\ w'.cell? ⟨w.heap.size + 1, 3, none⟩ = some (.int .u64 (lo eb : Int)) /\ w'.cell? ⟨w.heap.size + 1, 4, none⟩ = some (.string (mo eb)) /\ w'.cell? ⟨g, 0, none⟩ = some (.int .u64 (lo G : Int)) /\ w'.cell? ⟨g, 1, none⟩ = some (.string (mo G)) /\ w'.cell? ⟨h, 0, none⟩ = some (.int .u64 (lo H : Int)) /\ w'.cell? ⟨h, 1, none⟩ = some (.string (mo H))) (go_keep) (first | (go_at_call 81; refine (HPA.out _).mono ?_; rintro e w1 ⟨rfl, aE⟩; (try clear j6 j7 j8 j9 o0); obtain ⟨c0, j6, j7, j8, j9, o0⟩ := c0.zc5 aE; (try clear aC); have aC := c0.lt; (try clear o5 s9 t7 t8 x8); obtain ⟨c1, o5, s9, t7, t8, x8⟩ := c1.zc5 aE; (try clear aD); have aD := c1.lt; (try clear y8 y9); obtain ⟨c5, y8, y9⟩ := c5.zc2 aE; (try clear aS); have aS := c5.lt; (try clear aA aB); obtain ⟨c6, aA, aB⟩ := c6.zc2 aE; (try clear aT); have aT := c6.lt; have c2 := c2.yy aE; (try clear aU); have aU := c2.lt; have hc := Ja hc aE) | (go_at_call 81; refine (HPB.out _).mono ?_; rintro e w2 ⟨rfl, aF⟩; (try clear j6 j7 j8 j9 o0); obtain ⟨c0, j6, j7, j8, j9, o0⟩ := c0.zc5 aF; (try clear aC); have aC := c0.lt; (try clear o5 s9 t7 t8 x8); obtain ⟨c1, o5, s9, t7, t8, x8⟩ := c1.zc5 aF; (try clear aD); have aD := c1.lt; (try clear y8 y9); obtain ⟨c5, y8, y9⟩ := c5.zc2 aF; (try clear aS); have aS := c5.lt; (try clear aA aB); obtain ⟨c6, aA, aB⟩ := c6.zc2 aF; (try clear aT); have aT := c6.lt; have c2 := c2.yy aF; (try clear aU); have aU := c2.lt; have hc := Ja hc aF) | (go_at_call 78; refine (HM1.out _).mono ?_; rintro e w3 ⟨rfl, aH⟩; (try clear j6 j7 j8 j9 o0); obtain ⟨c0, j6, j7, j8, j9, o0⟩ := c0.zc5 aH; (try clear aC); have aC := c0.lt; (try clear o5 s9 t7 t8 x8); obtain ⟨c1, o5, s9, t7, t8, x8⟩ := c1.zc5 aH; (try clear aD); have aD := c1.lt; (try clear y8 y9); obtain ⟨c5, y8, y9⟩ := c5.zc2 aH; (try clear aS); have aS := c5.lt; (try clear aA aB); obtain ⟨c6, aA, aB⟩ := c6.zc2 aH; (try clear aT); have aT := c6.lt; have c2 := c2.yy aH; (try clear aU); have aU := c2.lt; have hc := Ja hc aH) | (go_at_call 67; refine (HDA.out _).mono ?_; rintro e w4 ⟨rfl, bJ⟩; (try clear j6 j7 j8 j9 o0); obtain ⟨c0, j6, j7, j8, j9, o0⟩ := c0.zc5 bJ; (try clear aC); have aC := c0.lt; (try clear o5 s9 t7 t8 x8); obtain ⟨c1, o5, s9, t7, t8, x8⟩ := c1.zc5 bJ; (try clear aD); have aD := c1.lt; (try clear y8 y9); obtain ⟨c5, y8, y9⟩ := c5.zc2 bJ; (try clear aS); have aS := c5.lt; (try clear aA aB); obtain ⟨c6, aA, aB⟩ := c6.zc2 bJ; (try clear aT); have aT := c6.lt; have c2 := c2.yy bJ; (try clear aU); have aU := c2.lt; have hc := Ja hc bJ) | (go_at_call 82; refine (HOA.out _).mono ?_; rintro e w5 ⟨rfl, bK⟩; (try clear j6 j7 j8 j9 o0); obtain ⟨c0, j6, j7, j8, j9, o0⟩ := c0.zc5 bK; (try clear aC); have aC := c0.lt; (try clear o5 s9 t7 t8 x8); obtain ⟨c1, o5, s9, t7, t8, x8⟩ := c1.zc5 bK; (try clear aD); have aD := c1.lt; (try clear y8 y9); obtain ⟨c5, y8, y9⟩ := c5.zc2 bK; (try clear aS); have aS := c5.lt; (try clear aA aB); obtain ⟨c6, aA, aB⟩ := c6.zc2 bK; (try clear aT); have aT := c6.lt; have c2 := c2.yy bK; (try clear aU); have aU := c2.lt; have hc := Ja hc bK) | (go_at_call 67; refine (HDB.out _).mono ?_; rintro e w6 ⟨rfl, bL⟩; (try clear j6 j7 j8 j9 o0); obtain ⟨c0, j6, j7, j8, j9, o0⟩ := c0.zc5 bL; (try clear aC); have aC := c0.lt; (try clear o5 s9 t7 t8 x8); obtain ⟨c1, o5, s9, t7, t8, x8⟩ := c1.zc5 bL; (try clear aD); have aD := c1.lt; (try clear y8 y9); obtain ⟨c5, y8, y9⟩ := c5.zc2 bL; (try clear aS); have aS := c5.lt; (try clear aA aB); obtain ⟨c6, aA, aB⟩ := c6.zc2 bL; (try clear aT); have aT := c6.lt; have c2 := c2.yy bL; (try clear aU); have aU := c2.lt; have hc := Ja hc bL) | (go_at_call 82; refine (HOB.out _).mono ?_; rintro e w7 ⟨rfl, bM⟩; (try clear j6 j7 j8 j9 o0); obtain ⟨c0, j6, j7, j8, j9, o0⟩ := c0.zc5 bM; (try clear aC); have aC := c0.lt; (try clear o5 s9 t7 t8 x8); obtain ⟨c1, o5, s9, t7, t8, x8⟩ := c1.zc5 bM; (try clear aD); have aD := c1.lt; (try clear y8 y9); obtain ⟨c5, y8, y9⟩ := c5.zc2 bM; (try clear aS); have aS := c5.lt; (try clear aA aB); obtain ⟨c6, aA, aB⟩ := c6.zc2 bM; (try clear aT); have aT := c6.lt; have c2 := c2.yy bM; (try clear aU); have aU := c2.lt; have hc := Ja hc bM) | (go_at_call 83; refine (HM2.out _).mono ?_; rintro e w8 ⟨rfl, bN⟩; (try clear j6 j7 j8 j9 o0); obtain ⟨c0, j6, j7, j8, j9, o0⟩ := c0.zc5 bN; (try clear aC); have aC := c0.lt; (try clear o5 s9 t7 t8 x8); obtain ⟨c1, o5, s9, t7, t8, x8⟩ := c1.zc5 bN; (try clear aD); have aD := c1.lt; (try clear y8 y9); obtain ⟨c5, y8, y9⟩ := c5.zc2 bN; (try clear aS); have aS := c5.lt; (try clear aA aB); obtain ⟨c6, aA, aB⟩ := c6.zc2 bN; (try clear aT); have aT := c6.lt; have c2 := c2.yy bN; (try clear aU); have aU := c2.lt; have hc := Ja hc bN) | (go_at_call 80; refine (HPK.out _).mono ?_; rintro e w9 ⟨rfl, bO⟩; (try clear j6 j7 j8 j9 o0); obtain ⟨c0, j6, j7, j8, j9, o0⟩ := c0.zc5 bO; (try clear aC); have aC := c0.lt; (try clear o5 s9 t7 t8 x8); obtain ⟨c1, o5, s9, t7, t8, x8⟩ := c1.zc5 bO; (try clear aD); have aD := c1.lt; (try clear y8 y9); obtain ⟨c5, y8, y9⟩ := c5.zc2 bO; (try clear aS); have aS := c5.lt; (try clear aA aB); obtain ⟨c6, aA, aB⟩ := c6.zc2 bO; (try clear aT); have aT := c6.lt; have c2 := c2.yy bO; (try clear aU); have aU := c2.lt; have hc := Ja hc bO; obtain ⟨dR, dS, dT, dU, dV, dW, dX, dY, dZ, eA, cZ, dA, dB, dC, dD⟩ := c2.f5))
    all_goals
     go_wp2
     refine bodyPost_ret (v := .agg #[.bool nq, .int .u64 (lo Q : Int), .string (mo Q), .int .u64 (lo eq : Int), .string (mo eq)]) (by simp [results, Tryz.results37, go_sem, cZ, dA, dB, dC, dD]) rfl ?_
     exact ⟨rfl, Qy (Ja dM hc) (by omega) _ _ _ _ _⟩
theorem Jck (a b : Rat) (w : World) (ha : QS 549755813888 a) (hb : QS 549755813888 b) (hT : Tab w) :
  Calls Tryz.prog 37 #[qV a, qV b] w (Ret (qV (a * b)) w) := by
 by_cases h1 : a.den = 1
 ·by_cases h2 : b.den = 1
  ·exact Jnz a b w ha hb h1 h2
  exact Jgh a b w ha hb (by simp [h2]) hT
 exact Jgh a b w ha hb (by simp [h1]) hT
