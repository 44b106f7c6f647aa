import Derived.Test.YtcoloflmigcphaaGreatDoorFracM
import Derived.Test.YtcoloflmigcphaaGreatDoorWholeAdd
namespace Go.Proofs.YtcoloflmigcphaaGreatDoor
set_option maxRecDepth 100000
set_option maxHeartbeats 8000000
open Go.RowKit
set_option linter.all false
attribute [local irreducible] lo mo Calls
set_option maxRecDepth 100000 in
set_option maxHeartbeats 1000000 in
theorem Jka (a b : Rat) (w : World) (ha : QS 137438953472 a) (hb : QS 137438953472 b) (bY : a.den = 1) (j0 : b.den = 1) :
  Calls Tryz.prog 41 #[qV a, qV b] w (Ret (qV (a + b)) w) := by
 have bH := fun w => Qk a w (ha.mono (by omega))
 have bC := fun w => Qk b w (hb.mono (by omega))
 rw [decide_eq_true bY] at bH
 rw [decide_eq_true j0] at bC
 have cP := fun w => Jdx a.num b.num w (by have := ha.1; omega) (by have := hb.1; omega)
 obtain ⟨q1, q2⟩ := Jdh a b bY j0
 have q3 := (Zi (a + b)).2 q2
 have q4 := (Zi a).2 bY
 have q5 := (Zi b).2 j0
 rw [<- q1] at cP
 unfold qV at bH bC ⊢
 rw [q4] at bH
 rw [q5] at bC
 rw [q3, q4, q5, Jy 0 (by omega), Jp 0 (by omega)]
 rw [Jy 0 (by omega), Jp 0 (by omega)] at bH bC
 unfold Qj at cP
 clear q1 q2 q3 q4 q5 ha hb bY j0
 generalize decide (a.num < 0) = na at *
 generalize decide (b.num < 0) = nb at *
 generalize decide ((a + b).num < 0) = nq at *
 generalize (a + b).num.natAbs = Q at *
 generalize a.num.natAbs = A at *
 generalize b.num.natAbs = B at *
 have HWA := lh bH
 have HWB := lh bC
 have HMU := lh cP
 clear bH bC cP
 obtain ⟨b0, b1, b2, hB, hZ⟩ := bx3 w 41 #[.bool na, .int .u64 (lo A : Int), .string (mo A), .int .u64 ((0 : Nat) : Int), .string ⟨#[]⟩] 41 #[.bool nb, .int .u64 (lo B : Int), .string (mo B), .int .u64 ((0 : Nat) : Int), .string ⟨#[]⟩] 41 #[.bool false, .int .u64 0, .string ⟨#[]⟩, .int .u64 0, .string ⟨#[]⟩]
 go_enter Tryz.func41, Tryz.ntmps41
 go_wp2_with fail
 generalize (((w.alloc (.cells #[.bool na, .int .u64 (lo A : Int), .string (mo A), .int .u64 ((0 : Nat) : Int), .string ⟨#[]⟩] 41)).alloc (.cells #[.bool nb, .int .u64 (lo B : Int), .string (mo B), .int .u64 ((0 : Nat) : Int), .string ⟨#[]⟩] 41)).alloc (.cells #[.bool false, .int .u64 0, .string ⟨#[]⟩, .int .u64 0, .string ⟨#[]⟩] 41)) = W at *
 refine (HWA.out _).mono ?_
 rintro e w1 ⟨rfl, j0⟩
 have eK := Ja hB j0
 (try clear aO aP aQ aR aS); obtain ⟨b0, aO, aP, aQ, aR, aS⟩ := b0.zc5 j0; (try clear aJ aK aL aM aN); obtain ⟨b1, aJ, aK, aL, aM, aN⟩ := b1.zc5 j0
 have b2 := b2.below j0 b2.lt
 go_wp2_with fail
 refine (HWB.out _).mono ?_
 rintro e w2 ⟨rfl, bK⟩
 have eL := Ja eK bK
 (try clear aO aP aQ aR aS); obtain ⟨b0, aO, aP, aQ, aR, aS⟩ := b0.zc5 bK; (try clear aJ aK aL aM aN); obtain ⟨b1, aJ, aK, aL, aM, aN⟩ := b1.zc5 bK
 have b2 := b2.below bK b2.lt
 go_wp2_with fail
 refine (HMU.out _).mono ?_
 rintro e w3 ⟨rfl, eH⟩
 have eM := Ja eL eH
 (try clear dC dD dE dF dG dH dI dJ dK dL cF cG cH cI cJ); obtain ⟨b2, dC, dD, dE, dF, dG, dH, dI, dJ, dK, dL, cF, cG, cH, cI, cJ⟩ := b2.zf5 eH
 go_wp2
 refine bodyPost_ret (v := .agg #[.bool nq, .int .u64 (lo Q : Int), .string (mo Q), .int .u64 ((0 : Nat) : Int), .string ⟨#[]⟩]) (by simp [results, Tryz.results41, go_sem, cF, cG, cH, cI, cJ]) rfl ?_
 exact ⟨rfl, Uy eM (by omega) _ _ _ _ _⟩
set_option maxRecDepth 100000 in
set_option maxHeartbeats 8000000 in
theorem Jeg (a b : Rat) (w : World) (ha : QS 137438953472 a) (hb : QS 137438953472 b) (hw : (decide (a.den = 1) && decide (b.den = 1)) = false) (hT : Tab w) :
  Calls Tryz.prog 41 #[qV a, qV b] w (Ret (qV (a + b)) w) := by
 have bY := ha.1
 have eI := ha.2
 have j0 := hb.1
 have bK := hb.2
 have bH := fun w => Qk a w (ha.mono (by omega))
 have bC := fun w => Qk b w (hb.mono (by omega))
 have gD := fun w => Yi a w (ha.mono (by omega))
 have cR := fun w => Yi b w (hb.mono (by omega))
 have bZ := fun w => Qw false a.den w (by omega)
 have cA := fun w => Qw false b.den w (by omega)
 rw [show signed false a.den = (a.den : Int) from rfl] at bZ
 rw [show signed false b.den = (b.den : Int) from rfl] at cA
 have bL := fun w (hT : Tab w) => Vf a.den b.den w (by rw [Int.natAbs_natCast]; omega) (by rw [Int.natAbs_natCast]; omega) hT
 rw [Int.natAbs_natCast, Int.natAbs_natCast] at bL
 obtain ⟨G, hG⟩ : ∃ G, Nat.gcd a.den b.den = G := ⟨_, rfl⟩
 rw [hG] at bL
 have g1 : G ∣ a.den := by rw [<- hG]; exact Nat.gcd_dvd_left ..
 have g2 : G ∣ b.den := by rw [<- hG]; exact Nat.gcd_dvd_right ..
 have g3 : G ≠ 0 := fun h => a.den_nz (Nat.gcd_eq_zero_iff.1 (hG.trans h)).1
 have g4 := nt (Qc (Nat.le_of_dvd a.den_pos g1)) eI
 have cB := fun w => Qw false G w (by omega)
 rw [show signed false G = (G : Int) from rfl] at cB
 obtain ⟨D, hD⟩ : ∃ D, a.den / G = D := ⟨_, rfl⟩
 obtain ⟨O, hO⟩ : ∃ O, b.den / G = O := ⟨_, rfl⟩
 have d1 : Je D <= 137438953472 := by rw [<- hD]; have := Yj a.den G; omega
 have d2 : Je O <= 137438953472 := by rw [<- hO]; have := Yj b.den G; omega
 have gE := fun w => Yo a.den G w (by omega) (by omega) g3
 have cT := fun w => Yo b.den G w (by omega) (by omega) g3
 rw [hD] at gE
 rw [hO] at cT
 have cU := fun w => Uj a.num O w (by omega) (by omega)
 have gF := fun w => Uj b.num D w (by omega) (by omega)
 have t1 := Zy a.num O
 have t2 := Zy b.num D
 rw [Int.natAbs_natCast] at t1 t2
 have cZ := fun w => Jdx (a.num * O) (b.num * D) w (by omega) (by omega)
 have t3 := Jeq (a.num * O) (b.num * D)
 obtain ⟨U, hU⟩ : ∃ U, a.num * (O : Int) + b.num * (D : Int) = U := ⟨_, rfl⟩
 rw [hU] at cZ t3
 have t4 : Je U.natAbs <= 549755813888 := by omega
 have bM := fun w (hT : Tab w) => Vf U G w t4 (by rw [Int.natAbs_natCast]; omega) hT
 rw [Int.natAbs_natCast] at bM
 obtain ⟨H, hH⟩ : ∃ H, Nat.gcd U.natAbs G = H := ⟨_, rfl⟩
 rw [hH] at bM
 have e1 : H ∣ U.natAbs := by rw [<- hH]; exact Nat.gcd_dvd_left ..
 have e2 : H ∣ G := by rw [<- hH]; exact Nat.gcd_dvd_right ..
 have e3 : H ≠ 0 := fun h => g3 (Nat.gcd_eq_zero_iff.1 (hH.trans h)).2
 have e4 := nt (Qc (Nat.le_of_dvd (by omega) e2)) g4
 obtain ⟨q1, q2⟩ := Jdi a b hG hD hO hU hH
 have eJ : QS 1099511627776 (a + b) := (ha.add hb).mono (by omega)
 have cK := fun w => Jbh U H w (by omega) (by omega) e3 e1
 have dM := fun w => Yo b.den H w (by omega) (by omega) e3
 have dA := fun w => Jfb D (b.den / H) w (by omega) (by have := Yj b.den H; omega)
 have cL := fun w => Jbi (a + b) w eJ
 rw [<- q1] at cK
 rw [<- q2] at dA
 clear q1 q2 eJ g1 g2 g3 g4 d1 d2 t1 t2 t3 t4 e1 e2 e3 e4 hG hD hO hU hH ha hb bY eI j0 bK
 unfold Jg at gD cR bZ cA cB bL bM cK gE cT dM cU gF dA cL
 unfold Qj at bZ cA cB bL bM cK cU gF cZ cL
 unfold qV at bH bC gD cR cL ⊢
 rw [Int.natAbs_natCast] at bZ cA cB bM
 rw [Int.natAbs_natCast, Int.natAbs_natCast] at bL
 generalize b.den / H = d2 at *
 generalize a.num * (O : Int) = p1 at *
 generalize b.num * (D : Int) = p2 at *
 generalize a + b = q at *
 generalize decide (a.den = 1) = wa at *
 generalize decide (b.den = 1) = wb at *
 generalize decide (a.num < 0) = na at *
 generalize decide (b.num < 0) = nb at *
 generalize decide (q.num < 0) = nq at *
 generalize decide (p1 < 0) = np1 at *
 generalize decide (p2 < 0) = np2 at *
 generalize decide (U < 0) = nu at *
 generalize decide ((a.den : Int) < 0) = nda at *
 generalize decide ((b.den : Int) < 0) = ndb at *
 generalize decide ((G : Int) < 0) = ndg at *
 generalize qden a = ea at *
 generalize qden b = eb at *
 generalize qden q = eq at *
 generalize a.num.natAbs = A at *
 generalize b.num.natAbs = B at *
 generalize q.num.natAbs = Q at *
 generalize p1.natAbs = P1 at *
 generalize p2.natAbs = P2 at *
 generalize U.natAbs = V at *
 generalize a.den = da at *
 generalize b.den = db at *
 generalize q.den = dq at *
 have HWA := lh bH
 have HWB := lh bC
 have HDA := lh gD
 have HDB := lh cR
 have HFA := lh bZ
 have HFB := lh cA
 have HFG := lh cB
 have HGG := lh bL
 have HGH := lh bM
 have HPA := lh cK
 have HOA := lh gE
 have HOB := lh cT
 have HOH := lh dM
 have HTA := lh cU
 have HTB := lh gF
 have HUP := lh cZ
 have HM2 := lh dA
 have HPK := lh cL
 clear bH bC gD cR bZ cA cB bL bM cK gE cT dM cU gF cZ dA cL
 obtain ⟨b0, b1, b2, hB, hZ⟩ := bx3 w 41 #[.bool na, .int .u64 (lo A : Int), .string (mo A), .int .u64 (lo ea : Int), .string (mo ea)] 41 #[.bool nb, .int .u64 (lo B : Int), .string (mo B), .int .u64 (lo eb : Int), .string (mo eb)] 41 #[.bool false, .int .u64 0, .string ⟨#[]⟩, .int .u64 0, .string ⟨#[]⟩]
 have tT := hT.next hB
 go_enter Tryz.func41, Tryz.ntmps41
 go_upto_region 1 with fail
 generalize (((w.alloc (.cells #[.bool na, .int .u64 (lo A : Int), .string (mo A), .int .u64 (lo ea : Int), .string (mo ea)] 41)).alloc (.cells #[.bool nb, .int .u64 (lo B : Int), .string (mo B), .int .u64 (lo eb : Int), .string (mo eb)] 41)).alloc (.cells #[.bool false, .int .u64 0, .string ⟨#[]⟩, .int .u64 0, .string ⟨#[]⟩] 41)) = W at *
 have fP : W.heap.size = w.heap.size + 1 + 1 + 1 := hZ.out
 go_cut [15] (fun v wc => v = .bool false /\ Below W.heap.size W wc)
 case first =>
  obtain ⟨aO, aP, aQ, aR, aS⟩ := b0.c5; obtain ⟨aJ, aK, aL, aM, aN⟩ := b1.c5
  go_wp2_with fail
  refine (HWA.out _).mono ?_
  rintro e w1 ⟨rfl, j0⟩
  (try clear aO aP aQ aR aS); obtain ⟨b0, aO, aP, aQ, aR, aS⟩ := b0.zc5 j0; (try clear aJ aK aL aM aN); obtain ⟨b1, aJ, aK, aL, aM, aN⟩ := b1.zc5 j0
  cases wa with
  | true =>
   have bC : wb = false := by simpa using hw
   subst bC
   go_wp2_with fail
   refine (HWB.out _).mono ?_
   rintro e w2 ⟨rfl, bK⟩
   go_wp2
   go_meet
   exact ⟨rfl, Ja j0 bK⟩
  | false =>
   go_wp2
   go_meet
   exact ⟨rfl, j0⟩
 case rest =>
  obtain ⟨rfl, bN⟩ := hcut
  rename World => wc
  clear HWA HWB hw
  have b0 := b0.below bN b0.lt
  have b1 := b1.below bN b1.lt
  have b2 := b2.below bN b2.lt
  have tT := tT.next bN
  go_upto_region 3 with fail
  go_cut [5] (fun v wd => Jdu wc 37 #[.int .u64 (lo G : Int), .string (mo G)] v wd)
  case first =>
   obtain ⟨aO, aP, aQ, aR, aS⟩ := b0.c5; have aW := b0.lt; have c0 := b0.drew; have aD := c0.lt; obtain ⟨aJ, aK, aL, aM, aN⟩ := b1.c5; have aT := b1.lt; have c1 := b1.drew; have fW := c1.lt; have hc := Jt wc; have tT : Tab wc.drew := tT; go_region_held3 (fun w' => w'.cell? ⟨w.heap.size, 0, none⟩ = some (.bool na) /\ w'.cell? ⟨w.heap.size, 1, none⟩ = some (.int .u64 (lo A : Int)) /\ w'.cell? ⟨w.heap.size, 2, none⟩ = some (.string (mo A)) /\ w'.cell? ⟨w.heap.size, 3, none⟩ = some (.int .u64 (lo ea : Int)) /\ w'.cell? ⟨w.heap.size, 4, none⟩ = some (.string (mo ea)) /\ w'.cell? ⟨w.heap.size + 1, 0, none⟩ = some (.bool nb) /\ w'.cell? ⟨w.heap.size + 1, 1, none⟩ = some (.int .u64 (lo B : Int)) /\ w'.cell? ⟨w.heap.size + 1, 2, none⟩ = some (.string (mo B)) /\ w'.cell? ⟨w.heap.size + 1, 3, none⟩ = some (.int .u64 (lo eb : Int)) /\ w'.cell? ⟨w.heap.size + 1, 4, none⟩ = some (.string (mo eb))) (go_keep) (first | ((first | (go_at_call 81; refine (HDA.out _).mono ?_; rintro e w1 ⟨rfl, bR⟩) | (go_at_call 53; refine (HFA.out _).mono ?_; rintro e w2 ⟨rfl, bR⟩) | (go_at_call 81; refine (HDB.out _).mono ?_; rintro e w3 ⟨rfl, bR⟩) | (go_at_call 53; refine (HFB.out _).mono ?_; rintro e w4 ⟨rfl, bR⟩) | (go_at_call 80; (first | refine (HGG.out _ tT).mono ?_ | refine (HGG.out _ (tT.next (Jb _ _))).mono ?_ | refine (HGG.out _ (tT.next (Jo _ _ _))).mono ?_); rintro e w5 ⟨rfl, bR⟩; have lst := True.intro)); (try clear o0 o9 fX p9 fY); obtain ⟨c0, o0, o9, fX, p9, fY⟩ := c0.zc5 bR; (try clear aD); have aD := c0.lt; (try clear j7 j8 j9 fU fV); obtain ⟨c1, j7, j8, j9, fU, fV⟩ := c1.zc5 bR; (try clear fW); have fW := c1.lt; (try have ca := ca.yy bR); (first | have tT := tT.next bR | have tT := (tT.next (Jb _ _)).next bR | have tT := (tT.next (Jo _ _ _)).next bR); (first | have hc := Ja hc bR | (have j0 := Xn hc bR; obtain ⟨ca, j6, hc⟩ := j0) | (have j0 := Xr hc bR; obtain ⟨ca, j6, hc⟩ := j0)); (try have aE := Jq aW j6); (try have aF := Jq aT j6); (try (clear lst; (try (have dN := ca.lt; obtain ⟨bO, bP, bQ, bS, bT, bU⟩ := ca.f2))))))
   all_goals
    go_wp2
    go_meet
    (first | exact Jgn hc ca j6 | exact Jgn (Ja hc (Jb _ _)) (Blk.new _ _ _) hc.size | exact ⟨_, rfl, hc.size, Blk.new _ _ _, Ja hc (Jb _ _)⟩)
  case rest =>
   obtain ⟨g5, rfl, hg, b5, gB⟩ := hcut
   rename World => wd
   have b0 := b0.below gB b0.lt
   have b1 := b1.below gB b1.lt
   have b2 := b2.below gB b2.lt
   have tT := tT.next gB
   have fQ := nt bN.size hg
   have dO := Ja bN gB
   clear bN gB hg HFA HFB HGG
   go_upto_region 4 with fail
   go_cut [6, 7] (fun v v' we => Born2 wd 37 #[.int .u64 (lo D : Int), .string (mo D)] 37 #[.int .u64 (lo O : Int), .string (mo O)] v v' we)
   case first =>
    obtain ⟨aO, aP, aQ, aR, aS⟩ := b0.c5; have aW := b0.lt; have c0 := b0.drew; have aD := c0.lt; obtain ⟨aJ, aK, aL, aM, aN⟩ := b1.c5; have aT := b1.lt; have c1 := b1.drew; have fW := c1.lt; obtain ⟨dP, dQ⟩ := b5.c2; have bD := b5.lt; have c5 := b5.drew; have bB := c5.lt; have hc := Jt wd; go_region_held3 (fun w' => w'.cell? ⟨w.heap.size, 0, none⟩ = some (.bool na) /\ w'.cell? ⟨w.heap.size, 1, none⟩ = some (.int .u64 (lo A : Int)) /\ w'.cell? ⟨w.heap.size, 2, none⟩ = some (.string (mo A)) /\ w'.cell? ⟨w.heap.size, 3, none⟩ = some (.int .u64 (lo ea : Int)) /\ w'.cell? ⟨w.heap.size, 4, none⟩ = some (.string (mo ea)) /\ w'.cell? ⟨w.heap.size + 1, 0, none⟩ = some (.bool nb) /\ w'.cell? ⟨w.heap.size + 1, 1, none⟩ = some (.int .u64 (lo B : Int)) /\ w'.cell? ⟨w.heap.size + 1, 2, none⟩ = some (.string (mo B)) /\ w'.cell? ⟨w.heap.size + 1, 3, none⟩ = some (.int .u64 (lo eb : Int)) /\ w'.cell? ⟨w.heap.size + 1, 4, none⟩ = some (.string (mo eb)) /\ w'.cell? ⟨g5, 0, none⟩ = some (.int .u64 (lo G : Int)) /\ w'.cell? ⟨g5, 1, none⟩ = some (.string (mo G))) (go_keep) (first | ((first | (go_at_call 81; refine (HDA.out _).mono ?_; rintro e w1 ⟨rfl, bR⟩) | (go_at_call 82; refine (HOA.out _).mono ?_; rintro e w2 ⟨rfl, bR⟩) | (go_at_call 81; refine (HDB.out _).mono ?_; rintro e w3 ⟨rfl, bR⟩) | (go_at_call 82; refine (HOB.out _).mono ?_; rintro e w4 ⟨rfl, bR⟩; have lst := True.intro)); (try clear o0 o9 fX p9 fY); obtain ⟨c0, o0, o9, fX, p9, fY⟩ := c0.zc5 bR; (try clear aD); have aD := c0.lt; (try clear j7 j8 j9 fU fV); obtain ⟨c1, j7, j8, j9, fU, fV⟩ := c1.zc5 bR; (try clear fW); have fW := c1.lt; (try clear aG aH); obtain ⟨c5, aG, aH⟩ := c5.zc2 bR; (try clear bB); have bB := c5.lt; (try have bV := ca.lt); (try have ca := ca.yy bR); (try (first | have cd := cd.below bR cd.lt | have cd := (cd.alloc _).below bR (cd.alloc _).lt)); (first | have hc := Ja hc bR | (have aY := bV; have j0 := Xr hc bR; obtain ⟨cd, aI, hc⟩ := j0) | (have j0 := Xn hc bR; obtain ⟨ca, j6, hc⟩ := j0) | (have j0 := Xr hc bR; obtain ⟨ca, j6, hc⟩ := j0) | (have j0 := Jfq hc bR; obtain ⟨ca, j6, cd, aI, aY, hc⟩ := j0) | (have j0 := Jhc hc bR; obtain ⟨ca, j6, cd, aI, aY, hc⟩ := j0)); (try have aE := Jq aW j6); (try have c0nc := Jq aW aI); (try have aF := Jq aT j6); (try have c1nc := Jq aT aI); (try have bE := Jq bD j6); (try have c5nc := Jq bD aI); (try have dR := Jq aY zd); (try (clear lst; (try (have dN := ca.lt; obtain ⟨bO, bP, bQ, bS, bT, bU⟩ := ca.f2)); (try (have fR := cd.lt; obtain ⟨eN, eO, eP, eQ, eR, eS⟩ := cd.f2))))))
    all_goals
     go_wp2
     go_meet
     (have fS := hc.size; first | with_reducible exact Jn9 hc | with_reducible exact Jn8 hc | with_reducible exact Jn7 hc ca j6 | with_reducible exact Jn6 hc ca j6 | (with_reducible refine Jmz hc ca cd ?_ ?_ ?_) <;> omega | (with_reducible refine Jmz hc cd ca ?_ ?_ ?_) <;> omega)
   case rest =>
    obtain ⟨g6, g7, rfl, rfl, eT, h6, h7, b6, b7, bW⟩ := hcut
    rename World => we
    have b0 := b0.below bW b0.lt
    have b1 := b1.below bW b1.lt
    have b2 := b2.below bW b2.lt
    have b5 := b5.below bW b5.lt
    have tT := tT.next bW
    have eU := nt dO.size h6
    have dS := Ja dO bW
    clear dO bW h6 h7 HDA HOA HOB eT
    go_upto_region 5 with fail
    go_cut [8] (fun v wf => Jdu we 39 #[.bool nu, .int .u64 (lo V : Int), .string (mo V)] v wf)
    case first =>
     obtain ⟨aO, aP, aQ, aR, aS⟩ := b0.c5; have aW := b0.lt; have c0 := b0.drew; have aD := c0.lt; obtain ⟨aJ, aK, aL, aM, aN⟩ := b1.c5; have aT := b1.lt; have c1 := b1.drew; have fW := c1.lt; obtain ⟨dT, dU⟩ := b6.c2; have dB := b6.lt; have c6 := b6.drew; have aX := c6.lt; obtain ⟨eV, eW⟩ := b7.c2; have dV := b7.lt; have c7 := b7.drew; have cD := c7.lt; have hc := Jt we; go_region_held3 (fun w' => w'.cell? ⟨w.heap.size, 0, none⟩ = some (.bool na) /\ w'.cell? ⟨w.heap.size, 1, none⟩ = some (.int .u64 (lo A : Int)) /\ w'.cell? ⟨w.heap.size, 2, none⟩ = some (.string (mo A)) /\ w'.cell? ⟨w.heap.size, 3, none⟩ = some (.int .u64 (lo ea : Int)) /\ w'.cell? ⟨w.heap.size, 4, none⟩ = some (.string (mo ea)) /\ w'.cell? ⟨w.heap.size + 1, 0, none⟩ = some (.bool nb) /\ w'.cell? ⟨w.heap.size + 1, 1, none⟩ = some (.int .u64 (lo B : Int)) /\ w'.cell? ⟨w.heap.size + 1, 2, none⟩ = some (.string (mo B)) /\ w'.cell? ⟨w.heap.size + 1, 3, none⟩ = some (.int .u64 (lo eb : Int)) /\ w'.cell? ⟨w.heap.size + 1, 4, none⟩ = some (.string (mo eb)) /\ w'.cell? ⟨g6, 0, none⟩ = some (.int .u64 (lo D : Int)) /\ w'.cell? ⟨g6, 1, none⟩ = some (.string (mo D)) /\ w'.cell? ⟨g7, 0, none⟩ = some (.int .u64 (lo O : Int)) /\ w'.cell? ⟨g7, 1, none⟩ = some (.string (mo O))) (go_keep) (first | ((first | (go_at_call 83; refine (HTA.out _).mono ?_; rintro e w1 ⟨rfl, bR⟩) | (go_at_call 83; refine (HTB.out _).mono ?_; rintro e w2 ⟨rfl, bR⟩) | (go_at_call 79; refine (HUP.out _).mono ?_; rintro e w3 ⟨rfl, bR⟩; have lst := True.intro)); (try clear o0 o9 fX p9 fY); obtain ⟨c0, o0, o9, fX, p9, fY⟩ := c0.zc5 bR; (try clear aD); have aD := c0.lt; (try clear j7 j8 j9 fU fV); obtain ⟨c1, j7, j8, j9, fU, fV⟩ := c1.zc5 bR; (try clear fW); have fW := c1.lt; (try clear fZ gA); obtain ⟨c6, fZ, gA⟩ := c6.zc2 bR; (try clear aX); have aX := c6.lt; (try clear bF bG); obtain ⟨c7, bF, bG⟩ := c7.zc2 bR; (try clear cD); have cD := c7.lt; (try have ca := ca.yy bR); (first | have hc := Ja hc bR | (have j0 := Xn hc bR; obtain ⟨ca, j6, hc⟩ := j0) | (have j0 := Xr hc bR; obtain ⟨ca, j6, hc⟩ := j0)); (try have aE := Jq aW j6); (try have aF := Jq aT j6); (try have cN := Jq dB j6); (try have cO := Jq dV j6); (try (clear lst; (try (have dN := ca.lt; obtain ⟨bO, bP, eX, bQ, bS, eY, bT, bU, eZ⟩ := ca.f3))))))
     all_goals
      go_wp2
      go_meet
      (first | exact Jod hc ca j6 | exact Jod (Ja hc (Jb _ _)) (Blk.new _ _ _) hc.size | exact ⟨_, rfl, hc.size, Blk.new _ _ _, Ja hc (Jb _ _)⟩)
    case rest =>
     obtain ⟨g8, rfl, hg, b8, bX⟩ := hcut
     rename World => wf
     have b1 := b1.below bX b1.lt
     have b2 := b2.below bX b2.lt
     have b5 := b5.below bX b5.lt
     have b6 := b6.below bX b6.lt
     have tT := tT.next bX
     have fA := nt dS.size hg
     have dW := Ja dS bX
     clear dS bX hg HTA HTB HUP b0 b7
     go_upto_region 6 with fail
     go_cut [9] (fun v wh => Jdu wf 37 #[.int .u64 (lo H : Int), .string (mo H)] v wh)
     case first =>
      obtain ⟨dX, dY, dZ⟩ := b8.c3; have eA := b8.lt; have c8 := b8.drew; have aZ := c8.lt; obtain ⟨dP, dQ⟩ := b5.c2; have bD := b5.lt; have c5 := b5.drew; have bB := c5.lt; have hc := Jt wf; have tT : Tab wf.drew := tT; go_region_held3 (fun w' => w'.cell? ⟨g8, 0, none⟩ = some (.bool nu) /\ w'.cell? ⟨g8, 1, none⟩ = some (.int .u64 (lo V : Int)) /\ w'.cell? ⟨g8, 2, none⟩ = some (.string (mo V)) /\ w'.cell? ⟨g5, 0, none⟩ = some (.int .u64 (lo G : Int)) /\ w'.cell? ⟨g5, 1, none⟩ = some (.string (mo G))) (go_keep) (first | ((first | (go_at_call 53; refine (HFG.out _).mono ?_; rintro e w1 ⟨rfl, bR⟩) | (go_at_call 80; (first | refine (HGH.out _ tT).mono ?_ | refine (HGH.out _ (tT.next (Jb _ _))).mono ?_ | refine (HGH.out _ (tT.next (Jo _ _ _))).mono ?_); rintro e w2 ⟨rfl, bR⟩; have lst := True.intro)); (try clear aA aB aC); obtain ⟨c8, aA, aB, aC⟩ := c8.zc3 bR; (try clear aZ); have aZ := c8.lt; (try clear aG aH); obtain ⟨c5, aG, aH⟩ := c5.zc2 bR; (try clear bB); have bB := c5.lt; (try have ca := ca.yy bR); (first | have tT := tT.next bR | have tT := (tT.next (Jb _ _)).next bR | have tT := (tT.next (Jo _ _ _)).next bR); (first | have hc := Ja hc bR | (have j0 := Xn hc bR; obtain ⟨ca, j6, hc⟩ := j0) | (have j0 := Xr hc bR; obtain ⟨ca, j6, hc⟩ := j0)); (try have eB := Jq eA j6); (try have bE := Jq bD j6); (try (clear lst; (try (have dN := ca.lt; obtain ⟨bO, bP, bQ, bS, bT, bU⟩ := ca.f2))))))
      all_goals
       go_wp2
       go_meet
       (first | exact Jgn hc ca j6 | exact Jgn (Ja hc (Jb _ _)) (Blk.new _ _ _) hc.size | exact ⟨_, rfl, hc.size, Blk.new _ _ _, Ja hc (Jb _ _)⟩)
     case rest =>
      obtain ⟨g9, rfl, hg, b9, cE⟩ := hcut
      rename World => wh
      have b1 := b1.below cE b1.lt
      have b2 := b2.below cE b2.lt
      have b6 := b6.below cE b6.lt
      have b8 := b8.below cE b8.lt
      have fB := nt dW.size hg
      have fC := Ja hB (Ja dW cE)
      clear dW cE hg HFG HGH tT b5
      have n1 := Jq (show w.heap.size + 1 < w.heap.size + 1 + 1 by omega) zd
      have n2 := Jq (show w.heap.size + 1 + 1 < W.heap.size by omega) eU
      have n3 := Jq (show w.heap.size + 1 + 1 < W.heap.size by omega) fA
      have n4 := Jq (show w.heap.size + 1 + 1 < W.heap.size by omega) fB
      go_upto_region 7 with fail
      obtain ⟨aJ, aK, aL, aM, aN⟩ := b1.c5; have aT := b1.lt; have c1 := b1.drew; have fW := c1.lt; obtain ⟨dT, dU⟩ := b6.c2; have dB := b6.lt; have c6 := b6.drew; have aX := c6.lt; obtain ⟨dX, dY, dZ⟩ := b8.c3; have eA := b8.lt; have c8 := b8.drew; have aZ := c8.lt; obtain ⟨fD, fE⟩ := b9.c2; have fT := b9.lt; have c9 := b9.drew; have bI := c9.lt; have c2 := b2.drew; have bJ := c2.lt; have hc := Jt wh; go_region_held3 (fun w' => w'.cell? ⟨w.heap.size + 1, 0, none⟩ = some (.bool nb) /\ w'.cell? ⟨w.heap.size + 1, 1, none⟩ = some (.int .u64 (lo B : Int)) /\ w'.cell? ⟨w.heap.size + 1, 2, none⟩ = some (.string (mo B)) /\ w'.cell? ⟨w.heap.size + 1, 3, none⟩ = some (.int .u64 (lo eb : Int)) /\ w'.cell? ⟨w.heap.size + 1, 4, none⟩ = some (.string (mo eb)) /\ w'.cell? ⟨g6, 0, none⟩ = some (.int .u64 (lo D : Int)) /\ w'.cell? ⟨g6, 1, none⟩ = some (.string (mo D)) /\ w'.cell? ⟨g8, 0, none⟩ = some (.bool nu) /\ w'.cell? ⟨g8, 1, none⟩ = some (.int .u64 (lo V : Int)) /\ w'.cell? ⟨g8, 2, none⟩ = some (.string (mo V)) /\ w'.cell? ⟨g9, 0, none⟩ = some (.int .u64 (lo H : Int)) /\ w'.cell? ⟨g9, 1, none⟩ = some (.string (mo H))) (go_keep) (first | ((first | (go_at_call 85; refine (HPA.out _).mono ?_; rintro e w1 ⟨rfl, bR⟩) | (go_at_call 81; refine (HDB.out _).mono ?_; rintro e w2 ⟨rfl, bR⟩) | (go_at_call 82; refine (HOH.out _).mono ?_; rintro e w3 ⟨rfl, bR⟩) | (go_at_call 86; refine (HM2.out _).mono ?_; rintro e w4 ⟨rfl, bR⟩) | (go_at_call 84; refine (HPK.out _).mono ?_; rintro e w5 ⟨rfl, bR⟩; have lst := True.intro)); (try clear j7 j8 j9 fU fV); obtain ⟨c1, j7, j8, j9, fU, fV⟩ := c1.zc5 bR; (try clear fW); have fW := c1.lt; (try clear fZ gA); obtain ⟨c6, fZ, gA⟩ := c6.zc2 bR; (try clear aX); have aX := c6.lt; (try clear aA aB aC); obtain ⟨c8, aA, aB, aC⟩ := c8.zc3 bR; (try clear aZ); have aZ := c8.lt; (try clear aU aV); obtain ⟨c9, aU, aV⟩ := c9.zc2 bR; (try clear bI); have bI := c9.lt; have c2 := c2.yy bR; (try clear bJ); have bJ := c2.lt; have hc := Ja hc bR; (try (clear lst; obtain ⟨fF, fG, fH, fI, fJ, fK, fL, fM, fN, fO, eC, eD, eE, eF, eG⟩ := c2.f5))))
      all_goals
       go_wp2
       refine bodyPost_ret (v := .agg #[.bool nq, .int .u64 (lo Q : Int), .string (mo Q), .int .u64 (lo eq : Int), .string (mo eq)]) (by simp [results, Tryz.results41, go_sem, eC, eD, eE, eF, eG]) rfl ?_
       exact ⟨rfl, Uy (Ja fC hc) (by omega) _ _ _ _ _⟩
theorem Jcx (a b : Rat) (w : World) (ha : QS 137438953472 a) (hb : QS 137438953472 b) (hT : Tab w) :
  Calls Tryz.prog 41 #[qV a, qV b] w (Ret (qV (a + b)) w) := by
 by_cases h1 : a.den = 1
 ·by_cases h2 : b.den = 1
  ·exact Jka a b w ha hb h1 h2
  exact Jeg a b w ha hb (by simp [h2]) hT
 exact Jeg a b w ha hb (by simp [h1]) hT
