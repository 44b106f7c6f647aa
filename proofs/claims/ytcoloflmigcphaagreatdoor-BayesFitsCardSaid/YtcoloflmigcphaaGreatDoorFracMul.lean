import Derived.Test.YtcoloflmigcphaaGreatDoorFracM
namespace Go.Proofs.YtcoloflmigcphaaGreatDoor
set_option maxRecDepth 100000
set_option maxHeartbeats 2000000
open Go.RowKit
set_option linter.all false
attribute [local irreducible] lo mo Calls
set_option maxRecDepth 100000 in
set_option maxHeartbeats 1000000 in
theorem Jj9 (a b : Rat) (w : World) (ha : QS 549755813888 a) (hb : QS 549755813888 b) (bP : a.den = 1) (eA : b.den = 1) :
  Calls Tryz.prog 42 #[qV a, qV b] w (Ret (qV (a * b)) w) := by
 have aS := fun w => Qk a w (ha.mono (by omega))
 have aP := fun w => Qk b w (hb.mono (by omega))
 rw [decide_eq_true bP] at aS
 rw [decide_eq_true eA] at aP
 have bQ := fun w => Ja2 a.num b.num w (by have := ha.1; omega) (by have := hb.1; omega)
 obtain ⟨q1, q2⟩ := Jdf a b bP eA
 have q3 := (Zi (a * b)).2 q2
 have q4 := (Zi a).2 bP
 have q5 := (Zi b).2 eA
 rw [<- q1] at bQ
 unfold qV at aS aP ⊢
 rw [q4] at aS
 rw [q5] at aP
 rw [q3, q4, q5, Jy 0 (by omega), Jp 0 (by omega)]
 rw [Jy 0 (by omega), Jp 0 (by omega)] at aS aP
 unfold Qj at bQ
 clear q1 q2 q3 q4 q5 ha hb bP eA
 generalize decide (a.num < 0) = na at *
 generalize decide (b.num < 0) = nb at *
 generalize decide ((a * b).num < 0) = nq at *
 generalize (a * b).num.natAbs = Q at *
 generalize a.num.natAbs = A at *
 generalize b.num.natAbs = B at *
 have HWA := lh aS
 have HWB := lh aP
 have HMU := lh bQ
 clear aS aP bQ
 obtain ⟨b0, b1, b2, hB, hZ⟩ := bx3 w 41 #[.bool na, .int .u64 (lo A : Int), .string (mo A), .int .u64 ((0 : Nat) : Int), .string ⟨#[]⟩] 41 #[.bool nb, .int .u64 (lo B : Int), .string (mo B), .int .u64 ((0 : Nat) : Int), .string ⟨#[]⟩] 41 #[.bool false, .int .u64 0, .string ⟨#[]⟩, .int .u64 0, .string ⟨#[]⟩]
 go_enter Tryz.func42, Tryz.ntmps42
 go_wp2_with fail
 generalize (((w.alloc (.cells #[.bool na, .int .u64 (lo A : Int), .string (mo A), .int .u64 ((0 : Nat) : Int), .string ⟨#[]⟩] 41)).alloc (.cells #[.bool nb, .int .u64 (lo B : Int), .string (mo B), .int .u64 ((0 : Nat) : Int), .string ⟨#[]⟩] 41)).alloc (.cells #[.bool false, .int .u64 0, .string ⟨#[]⟩, .int .u64 0, .string ⟨#[]⟩] 41)) = W at *
 refine (HWA.out _).mono ?_
 rintro e w1 ⟨rfl, eA⟩
 have dC := Ja hB eA
 (try clear aC aD aE aF aG); obtain ⟨b0, aC, aD, aE, aF, aG⟩ := b0.zc5 eA; (try clear aH aI aJ aK aL); obtain ⟨b1, aH, aI, aJ, aK, aL⟩ := b1.zc5 eA
 have b2 := b2.below eA b2.lt
 go_wp2_with fail
 refine (HWB.out _).mono ?_
 rintro e w2 ⟨rfl, aW⟩
 have dD := Ja dC aW
 (try clear aC aD aE aF aG); obtain ⟨b0, aC, aD, aE, aF, aG⟩ := b0.zc5 aW; (try clear aH aI aJ aK aL); obtain ⟨b1, aH, aI, aJ, aK, aL⟩ := b1.zc5 aW
 have b2 := b2.below aW b2.lt
 go_wp2_with fail
 refine (HMU.out _).mono ?_
 rintro e w3 ⟨rfl, dA⟩
 have dE := Ja dD dA
 (try clear bY bZ cA cB eG cD cE cF cG cH bJ bK bL bM bN); obtain ⟨b2, bY, bZ, cA, cB, eG, cD, cE, cF, cG, cH, bJ, bK, bL, bM, bN⟩ := b2.zf5 dA
 go_wp2
 refine bodyPost_ret (v := .agg #[.bool nq, .int .u64 (lo Q : Int), .string (mo Q), .int .u64 ((0 : Nat) : Int), .string ⟨#[]⟩]) (by simp [results, Tryz.results42, go_sem, bJ, bK, bL, bM, bN]) rfl ?_
 exact ⟨rfl, Uy dE (by omega) _ _ _ _ _⟩
set_option maxRecDepth 100000 in
set_option maxHeartbeats 2000000 in
theorem Jef (a b : Rat) (w : World) (ha : QS 549755813888 a) (hb : QS 549755813888 b) (hw : (decide (a.den = 1) && decide (b.den = 1)) = false) (hT : Tab w) :
  Calls Tryz.prog 42 #[qV a, qV b] w (Ret (qV (a * b)) w) := by
 have aS := fun w => Qk a w (ha.mono (by omega))
 have aP := fun w => Qk b w (hb.mono (by omega))
 have bS := fun w => Yi a w (ha.mono (by omega))
 have bT := fun w => Yi b w (hb.mono (by omega))
 have aX := fun w => Qw false a.den w (by have := ha.2; omega)
 have aY := fun w => Qw false b.den w (by have := hb.2; omega)
 rw [show signed false a.den = (a.den : Int) from rfl] at aX
 rw [show signed false b.den = (b.den : Int) from rfl] at aY
 have aZ := fun w (hT : Tab w) => Vf a.num b.den w ha.1 (by rw [Int.natAbs_natCast]; exact hb.2) hT
 have bA := fun w (hT : Tab w) => Vf b.num a.den w hb.1 (by rw [Int.natAbs_natCast]; exact ha.2) hT
 rw [Int.natAbs_natCast] at aZ bA
 obtain ⟨q1, q2⟩ := Jdg a b rfl rfl
 have dB : QS 1099511627776 (a * b) := (ha.mul hb).mono (by omega)
 have g1 := Nat.gcd_dvd_left a.num.natAbs b.den
 have g2 := Nat.gcd_dvd_right a.num.natAbs b.den
 have g3 := Nat.gcd_dvd_left b.num.natAbs a.den
 have g4 := Nat.gcd_dvd_right b.num.natAbs a.den
 have g5 : Nat.gcd a.num.natAbs b.den ≠ 0 := fun h => b.den_nz (Nat.gcd_eq_zero_iff.1 h).2
 have g6 : Nat.gcd b.num.natAbs a.den ≠ 0 := fun h => a.den_nz (Nat.gcd_eq_zero_iff.1 h).2
 have g7 := nt (Qc (Nat.le_of_dvd b.den_pos g2)) hb.2
 have g8 := nt (Qc (Nat.le_of_dvd a.den_pos g4)) ha.2
 generalize Nat.gcd a.num.natAbs b.den = G at *
 generalize Nat.gcd b.num.natAbs a.den = H at *
 have bU := fun w => Jbh a.num G w (by have := ha.1; omega) (by omega) g5 g1
 have bV := fun w => Jbh b.num H w (by have := hb.1; omega) (by omega) g6 g3
 have cI := fun w => Yo a.den H w (by have := ha.2; omega) (by omega) g6
 have cJ := fun w => Yo b.den G w (by have := hb.2; omega) (by omega) g5
 have bW := fun w => Ja2 (a.num / (G : Int)) (b.num / (H : Int)) w (by have := ha.1; have := Jbk g1; omega) (by have := hb.1; have := Jbk g3; omega)
 have bX := fun w => Jfb (a.den / H) (b.den / G) w (by have := ha.2; have := Yj a.den H; omega) (by have := hb.2; have := Yj b.den G; omega)
 have bO := fun w => Jbi (a * b) w dB
 rw [<- q1] at bW
 rw [<- q2] at bX
 clear q1 q2 dB g1 g2 g3 g4 g5 g6 g7 g8
 unfold Jg at bS bT aX aY aZ bA bU bV cI cJ bX bO
 unfold Qj at aX aY aZ bA bU bV bW bO
 unfold qV at aS aP bS bT bO ⊢
 rw [Int.natAbs_natCast] at aX aY aZ bA
 generalize a.num / (G : Int) = p1 at *
 generalize b.num / (H : Int) = p2 at *
 generalize a.den / H = d1 at *
 generalize b.den / G = d2 at *
 generalize a * b = q at *
 generalize decide (a.den = 1) = wa at *
 generalize decide (b.den = 1) = wb at *
 generalize decide (a.num < 0) = na at *
 generalize decide (b.num < 0) = nb at *
 generalize decide (q.num < 0) = nq at *
 generalize decide (p1 < 0) = np1 at *
 generalize decide (p2 < 0) = np2 at *
 generalize decide ((a.den : Int) < 0) = nda at *
 generalize decide ((b.den : Int) < 0) = ndb at *
 clear ha hb
 generalize qden a = ea at *
 generalize qden b = eb at *
 generalize qden q = eq at *
 generalize a.num.natAbs = A at *
 generalize b.num.natAbs = B at *
 generalize q.num.natAbs = Q at *
 generalize p1.natAbs = P1 at *
 generalize p2.natAbs = P2 at *
 generalize a.den = da at *
 generalize b.den = db at *
 generalize q.den = dq at *
 have HWA := lh aS
 have HWB := lh aP
 have HDA := lh bS
 have HDB := lh bT
 have HFA := lh aX
 have HFB := lh aY
 have HGG := lh aZ
 have HGH := lh bA
 have HPA := lh bU
 have HPB := lh bV
 have HOA := lh cI
 have HOB := lh cJ
 have HM1 := lh bW
 have HM2 := lh bX
 have HPK := lh bO
 clear aS aP bS bT aX aY aZ bA bU bV cI cJ bW bX bO
 obtain ⟨b0, b1, b2, hB, hZ⟩ := bx3 w 41 #[.bool na, .int .u64 (lo A : Int), .string (mo A), .int .u64 (lo ea : Int), .string (mo ea)] 41 #[.bool nb, .int .u64 (lo B : Int), .string (mo B), .int .u64 (lo eb : Int), .string (mo eb)] 41 #[.bool false, .int .u64 0, .string ⟨#[]⟩, .int .u64 0, .string ⟨#[]⟩]
 have tT := hT.next hB
 go_enter Tryz.func42, Tryz.ntmps42
 go_upto_region 1 with fail
 generalize (((w.alloc (.cells #[.bool na, .int .u64 (lo A : Int), .string (mo A), .int .u64 (lo ea : Int), .string (mo ea)] 41)).alloc (.cells #[.bool nb, .int .u64 (lo B : Int), .string (mo B), .int .u64 (lo eb : Int), .string (mo eb)] 41)).alloc (.cells #[.bool false, .int .u64 0, .string ⟨#[]⟩, .int .u64 0, .string ⟨#[]⟩] 41)) = W at *
 have dX : W.heap.size = w.heap.size + 1 + 1 + 1 := hZ.out
 go_cut [12] (fun v wc => v = .bool false /\ Below W.heap.size W wc)
 case first =>
  obtain ⟨aC, aD, aE, aF, aG⟩ := b0.c5; obtain ⟨aH, aI, aJ, aK, aL⟩ := b1.c5
  go_wp2_with fail
  refine (HWA.out _).mono ?_
  rintro e w1 ⟨rfl, eA⟩
  (try clear aC aD aE aF aG); obtain ⟨b0, aC, aD, aE, aF, aG⟩ := b0.zc5 eA; (try clear aH aI aJ aK aL); obtain ⟨b1, aH, aI, aJ, aK, aL⟩ := b1.zc5 eA
  cases wa with
  | true =>
   have aP : wb = false := by simpa using hw
   subst aP
   go_wp2_with fail
   refine (HWB.out _).mono ?_
   rintro e w2 ⟨rfl, aW⟩
   go_wp2
   go_meet
   exact ⟨rfl, Ja eA aW⟩
  | false =>
   go_wp2
   go_meet
   exact ⟨rfl, eA⟩
 case rest =>
  obtain ⟨rfl, aV⟩ := hcut
  rename World => wc
  clear HWA HWB hw
  have b0 := b0.below aV b0.lt
  have b1 := b1.below aV b1.lt
  have b2 := b2.below aV b2.lt
  have tT := tT.next aV
  go_upto_region 3 with fail
  go_cut [5] (fun v wd => Jdu wc 37 #[.int .u64 (lo G : Int), .string (mo G)] v wd)
  case first =>
   obtain ⟨aC, aD, aE, aF, aG⟩ := b0.c5; have aT := b0.lt; have c0 := b0.drew; have eE := c0.lt; obtain ⟨aH, aI, aJ, aK, aL⟩ := b1.c5; have aU := b1.lt; have c1 := b1.drew; have eF := c1.lt; have hc := Jt wc; have tT : Tab wc.drew := tT; go_region_held3 (fun w' => w'.cell? ⟨w.heap.size, 0, none⟩ = some (.bool na) /\ w'.cell? ⟨w.heap.size, 1, none⟩ = some (.int .u64 (lo A : Int)) /\ w'.cell? ⟨w.heap.size, 2, none⟩ = some (.string (mo A)) /\ w'.cell? ⟨w.heap.size, 3, none⟩ = some (.int .u64 (lo ea : Int)) /\ w'.cell? ⟨w.heap.size, 4, none⟩ = some (.string (mo ea)) /\ w'.cell? ⟨w.heap.size + 1, 0, none⟩ = some (.bool nb) /\ w'.cell? ⟨w.heap.size + 1, 1, none⟩ = some (.int .u64 (lo B : Int)) /\ w'.cell? ⟨w.heap.size + 1, 2, none⟩ = some (.string (mo B)) /\ w'.cell? ⟨w.heap.size + 1, 3, none⟩ = some (.int .u64 (lo eb : Int)) /\ w'.cell? ⟨w.heap.size + 1, 4, none⟩ = some (.string (mo eb))) (go_keep) (first | ((first | (go_at_call 81; refine (HDB.out _).mono ?_; rintro e w1 ⟨rfl, bR⟩) | (go_at_call 53; refine (HFB.out _).mono ?_; rintro e w2 ⟨rfl, bR⟩) | (go_at_call 80; (first | refine (HGG.out _ tT).mono ?_ | refine (HGG.out _ (tT.next (Jb _ _))).mono ?_ | refine (HGG.out _ (tT.next (Jo _ _ _))).mono ?_); rintro e w3 ⟨rfl, bR⟩; have lst := True.intro)); (try clear j0 j6 j7 j8 j9); obtain ⟨c0, j0, j6, j7, j8, j9⟩ := c0.zc5 bR; (try clear eE); have eE := c0.lt; (try clear eB eC eD o0 o9); obtain ⟨c1, eB, eC, eD, o0, o9⟩ := c1.zc5 bR; (try clear eF); have eF := c1.lt; (try have ca := ca.yy bR); (first | have tT := tT.next bR | have tT := (tT.next (Jb _ _)).next bR | have tT := (tT.next (Jo _ _ _)).next bR); (first | have hc := Ja hc bR | (have eA := Xn hc bR; obtain ⟨ca, aA, hc⟩ := eA) | (have eA := Xr hc bR; obtain ⟨ca, aA, hc⟩ := eA)); (try have aQ := Jq aT aA); (try have aR := Jq aU aA); (try (clear lst; (try (have dF := ca.lt; obtain ⟨cK, cL, cN, cO, cP, eH⟩ := ca.f2))))))
   all_goals
    go_wp2
    go_meet
    (first | exact Jgn hc ca aA | exact Jgn (Ja hc (Jb _ _)) (Blk.new _ _ _) hc.size | exact ⟨_, rfl, hc.size, Blk.new _ _ _, Ja hc (Jb _ _)⟩)
  case rest =>
   obtain ⟨g, rfl, hg, b5, bB⟩ := hcut
   rename World => wd
   have b0 := b0.below bB b0.lt
   have b1 := b1.below bB b1.lt
   have b2 := b2.below bB b2.lt
   have tT := tT.next bB
   have dG := nt aV.size hg
   have cR := Ja aV bB
   clear aV bB hg HFB HGG
   go_upto_region 4 with fail
   go_cut [6] (fun v we => Jdu wd 37 #[.int .u64 (lo H : Int), .string (mo H)] v we)
   case first =>
    obtain ⟨aC, aD, aE, aF, aG⟩ := b0.c5; have aT := b0.lt; have c0 := b0.drew; have eE := c0.lt; obtain ⟨aH, aI, aJ, aK, aL⟩ := b1.c5; have aU := b1.lt; have c1 := b1.drew; have eF := c1.lt; have hc := Jt wd; have tT : Tab wd.drew := tT; go_region_held3 (fun w' => w'.cell? ⟨w.heap.size, 0, none⟩ = some (.bool na) /\ w'.cell? ⟨w.heap.size, 1, none⟩ = some (.int .u64 (lo A : Int)) /\ w'.cell? ⟨w.heap.size, 2, none⟩ = some (.string (mo A)) /\ w'.cell? ⟨w.heap.size, 3, none⟩ = some (.int .u64 (lo ea : Int)) /\ w'.cell? ⟨w.heap.size, 4, none⟩ = some (.string (mo ea)) /\ w'.cell? ⟨w.heap.size + 1, 0, none⟩ = some (.bool nb) /\ w'.cell? ⟨w.heap.size + 1, 1, none⟩ = some (.int .u64 (lo B : Int)) /\ w'.cell? ⟨w.heap.size + 1, 2, none⟩ = some (.string (mo B)) /\ w'.cell? ⟨w.heap.size + 1, 3, none⟩ = some (.int .u64 (lo eb : Int)) /\ w'.cell? ⟨w.heap.size + 1, 4, none⟩ = some (.string (mo eb))) (go_keep) (first | ((first | (go_at_call 81; refine (HDA.out _).mono ?_; rintro e w1 ⟨rfl, bR⟩) | (go_at_call 53; refine (HFA.out _).mono ?_; rintro e w2 ⟨rfl, bR⟩) | (go_at_call 80; (first | refine (HGH.out _ tT).mono ?_ | refine (HGH.out _ (tT.next (Jb _ _))).mono ?_ | refine (HGH.out _ (tT.next (Jo _ _ _))).mono ?_); rintro e w3 ⟨rfl, bR⟩; have lst := True.intro)); (try clear j0 j6 j7 j8 j9); obtain ⟨c0, j0, j6, j7, j8, j9⟩ := c0.zc5 bR; (try clear eE); have eE := c0.lt; (try clear eB eC eD o0 o9); obtain ⟨c1, eB, eC, eD, o0, o9⟩ := c1.zc5 bR; (try clear eF); have eF := c1.lt; (try have ca := ca.yy bR); (first | have tT := tT.next bR | have tT := (tT.next (Jb _ _)).next bR | have tT := (tT.next (Jo _ _ _)).next bR); (first | have hc := Ja hc bR | (have eA := Xn hc bR; obtain ⟨ca, aA, hc⟩ := eA) | (have eA := Xr hc bR; obtain ⟨ca, aA, hc⟩ := eA)); (try have aQ := Jq aT aA); (try have aR := Jq aU aA); (try (clear lst; (try (have dF := ca.lt; obtain ⟨cK, cL, cN, cO, cP, eH⟩ := ca.f2))))))
    all_goals
     go_wp2
     go_meet
     (first | exact Jgn hc ca aA | exact Jgn (Ja hc (Jb _ _)) (Blk.new _ _ _) hc.size | exact ⟨_, rfl, hc.size, Blk.new _ _ _, Ja hc (Jb _ _)⟩)
   case rest =>
    obtain ⟨h, rfl, hh, b6, bC⟩ := hcut
    rename World => we
    have b0 := b0.below bC b0.lt
    have b1 := b1.below bC b1.lt
    have b2 := b2.below bC b2.lt
    have b5 := b5.below bC b5.lt
    have dH := nt cR.size hh
    have dI := Ja hB (Ja cR bC)
    clear cR bC hh HFA HGH tT
    have n0 := Jq (show w.heap.size < w.heap.size + 1 + 1 by omega) zd
    have n1 := Jq (show w.heap.size + 1 < w.heap.size + 1 + 1 by omega) zd
    have n2 := Jq (show w.heap.size + 1 + 1 < W.heap.size by omega) dG
    have n3 := Jq (show w.heap.size + 1 + 1 < W.heap.size by omega) dH
    go_upto_region 5 with fail
    obtain ⟨aC, aD, aE, aF, aG⟩ := b0.c5; have aT := b0.lt; have c0 := b0.drew; have eE := c0.lt; obtain ⟨aH, aI, aJ, aK, aL⟩ := b1.c5; have aU := b1.lt; have c1 := b1.drew; have eF := c1.lt; obtain ⟨dJ, dK⟩ := b5.c2; have dY := b5.lt; have c5 := b5.drew; have aM := c5.lt; obtain ⟨dL, dM⟩ := b6.c2; have dZ := b6.lt; have c6 := b6.drew; have aN := c6.lt; have c2 := b2.drew; have aO := c2.lt; have hc := Jt we; go_region_held3 (fun w' => w'.cell? ⟨w.heap.size, 0, none⟩ = some (.bool na) /\ w'.cell? ⟨w.heap.size, 1, none⟩ = some (.int .u64 (lo A : Int)) /\ w'.cell? ⟨w.heap.size, 2, none⟩ = some (.string (mo A)) /\ w'.cell? ⟨w.heap.size, 3, none⟩ = some (.int .u64 (lo ea : Int)) /\ w'.cell? ⟨w.heap.size, 4, none⟩ = some (.string (mo ea)) /\ w'.cell? ⟨w.heap.size + 1, 0, none⟩ = some (.bool nb) /\ w'.cell? ⟨w.heap.size + 1, 1, none⟩ = some (.int .u64 (lo B : Int)) /\ w'.cell? ⟨w.heap.size + 1, 2, none⟩ = some (.string (mo B)) /\ w'.cell? ⟨w.heap.size + 1, 3, none⟩ = some (.int .u64 (lo eb : Int)) /\ w'.cell? ⟨w.heap.size + 1, 4, none⟩ = some (.string (mo eb)) /\ w'.cell? ⟨g, 0, none⟩ = some (.int .u64 (lo G : Int)) /\ w'.cell? ⟨g, 1, none⟩ = some (.string (mo G)) /\ w'.cell? ⟨h, 0, none⟩ = some (.int .u64 (lo H : Int)) /\ w'.cell? ⟨h, 1, none⟩ = some (.string (mo H))) (go_keep) (first | ((first | (go_at_call 85; refine (HPA.out _).mono ?_; rintro e w1 ⟨rfl, bR⟩) | (go_at_call 85; refine (HPB.out _).mono ?_; rintro e w2 ⟨rfl, bR⟩) | (go_at_call 87; refine (HM1.out _).mono ?_; rintro e w3 ⟨rfl, bR⟩) | (go_at_call 81; refine (HDA.out _).mono ?_; rintro e w4 ⟨rfl, bR⟩) | (go_at_call 82; refine (HOA.out _).mono ?_; rintro e w5 ⟨rfl, bR⟩) | (go_at_call 81; refine (HDB.out _).mono ?_; rintro e w6 ⟨rfl, bR⟩) | (go_at_call 82; refine (HOB.out _).mono ?_; rintro e w7 ⟨rfl, bR⟩) | (go_at_call 86; refine (HM2.out _).mono ?_; rintro e w8 ⟨rfl, bR⟩) | (go_at_call 84; refine (HPK.out _).mono ?_; rintro e w9 ⟨rfl, bR⟩; have lst := True.intro)); (try clear j0 j6 j7 j8 j9); obtain ⟨c0, j0, j6, j7, j8, j9⟩ := c0.zc5 bR; (try clear eE); have eE := c0.lt; (try clear eB eC eD o0 o9); obtain ⟨c1, eB, eC, eD, o0, o9⟩ := c1.zc5 bR; (try clear eF); have eF := c1.lt; (try clear p9 eI); obtain ⟨c5, p9, eI⟩ := c5.zc2 bR; (try clear aM); have aM := c5.lt; (try clear s9 eJ); obtain ⟨c6, s9, eJ⟩ := c6.zc2 bR; (try clear aN); have aN := c6.lt; have c2 := c2.yy bR; (try clear aO); have aO := c2.lt; have hc := Ja hc bR; (try (clear lst; obtain ⟨dN, dO, dP, dQ, dR, dS, dT, dU, dV, dW, eK, cT, cU, eL, cZ⟩ := c2.f5))))
    all_goals
     go_wp2
     refine bodyPost_ret (v := .agg #[.bool nq, .int .u64 (lo Q : Int), .string (mo Q), .int .u64 (lo eq : Int), .string (mo eq)]) (by simp [results, Tryz.results42, go_sem, eK, cT, cU, eL, cZ]) rfl ?_
     exact ⟨rfl, Uy (Ja dI hc) (by omega) _ _ _ _ _⟩
theorem Jcw (a b : Rat) (w : World) (ha : QS 549755813888 a) (hb : QS 549755813888 b) (hT : Tab w) :
  Calls Tryz.prog 42 #[qV a, qV b] w (Ret (qV (a * b)) w) := by
 by_cases h1 : a.den = 1
 ·by_cases h2 : b.den = 1
  ·exact Jj9 a b w ha hb h1 h2
  exact Jef a b w ha hb (by simp [h2]) hT
 exact Jef a b w ha hb (by simp [h1]) hT
