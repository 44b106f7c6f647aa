import Derived.Test.YtacbcaebaomglaaGreatDoorFracM
namespace Go.Proofs.YtacbcaebaomglaaGreatDoor
set_option maxRecDepth 100000
set_option maxHeartbeats 2000000
open Go.RowKit
set_option linter.all false
attribute [local irreducible] lo mo Calls
set_option maxRecDepth 100000 in
set_option maxHeartbeats 1000000 in
theorem Jk2 (a b : Rat) (w : World) (ha : QS 549755813888 a) (hb : QS 549755813888 b) (bJ : a.den = 1) (o8 : b.den = 1) :
  Calls Tryz.prog 31 #[qV a, qV b] w (Ret (qV (a * b)) w) := by
 have aM := fun w => Qn a w (ha.mono (by omega))
 have aJ := fun w => Qn b w (hb.mono (by omega))
 rw [decide_eq_true bJ] at aM
 rw [decide_eq_true o8] at aJ
 have bK := fun w => Jb8 a.num b.num w (by have := ha.1; omega) (by have := hb.1; omega)
 obtain ⟨q1, q2⟩ := Jeq a b bJ o8
 have q3 := (Yg (a * b)).2 q2
 have q4 := (Yg a).2 bJ
 have q5 := (Yg b).2 o8
 rw [<- q1] at bK
 unfold qV at aM aJ ⊢
 rw [q4] at aM
 rw [q5] at aJ
 rw [q3, q4, q5, Qa 0 (by omega), Ju 0 (by omega)]
 rw [Qa 0 (by omega), Ju 0 (by omega)] at aM aJ
 unfold Jx at bK
 clear q1 q2 q3 q4 q5 ha hb bJ o8
 generalize decide (a.num < 0) = na at *
 generalize decide (b.num < 0) = nb at *
 generalize decide ((a * b).num < 0) = nq at *
 generalize (a * b).num.natAbs = Q at *
 generalize a.num.natAbs = A at *
 generalize b.num.natAbs = B at *
 have HWA := lh aM
 have HWB := lh aJ
 have HMU := lh bK
 clear aM aJ bK
 obtain ⟨b0, b1, b2, hB, hZ⟩ := bx3 w 65 #[.bool na, .int .u64 (lo A : Int), .string (mo A), .int .u64 ((0 : Nat) : Int), .string ⟨#[]⟩] 65 #[.bool nb, .int .u64 (lo B : Int), .string (mo B), .int .u64 ((0 : Nat) : Int), .string ⟨#[]⟩] 65 #[.bool false, .int .u64 0, .string ⟨#[]⟩, .int .u64 0, .string ⟨#[]⟩]
 go_enter Tryz.func31, Tryz.ntmps31
 go_wp2_with fail
 generalize (((w.alloc (.cells #[.bool na, .int .u64 (lo A : Int), .string (mo A), .int .u64 ((0 : Nat) : Int), .string ⟨#[]⟩] 65)).alloc (.cells #[.bool nb, .int .u64 (lo B : Int), .string (mo B), .int .u64 ((0 : Nat) : Int), .string ⟨#[]⟩] 65)).alloc (.cells #[.bool false, .int .u64 0, .string ⟨#[]⟩, .int .u64 0, .string ⟨#[]⟩] 65)) = W at *
 refine (HWA.out _).mono ?_
 rintro e w1 ⟨rfl, o8⟩
 have cQ := Ja hB o8
 (try clear x8 x9 y8 y9 aA); obtain ⟨b0, x8, x9, y8, y9, aA⟩ := b0.zc5 o8; (try clear aB aC aD aE aF); obtain ⟨b1, aB, aC, aD, aE, aF⟩ := b1.zc5 o8
 have b2 := b2.below o8 b2.lt
 go_wp2_with fail
 refine (HWB.out _).mono ?_
 rintro e w2 ⟨rfl, aQ⟩
 have cS := Ja cQ aQ
 (try clear x8 x9 y8 y9 aA); obtain ⟨b0, x8, x9, y8, y9, aA⟩ := b0.zc5 aQ; (try clear aB aC aD aE aF); obtain ⟨b1, aB, aC, aD, aE, aF⟩ := b1.zc5 aQ
 have b2 := b2.below aQ b2.lt
 go_wp2_with fail
 refine (HMU.out _).mono ?_
 rintro e w3 ⟨rfl, cO⟩
 have cT := Ja cS cO
 (try clear bQ bR bS bT bU bV bW bX bY bZ bD bE bF bG bH); obtain ⟨b2, bQ, bR, bS, bT, bU, bV, bW, bX, bY, bZ, bD, bE, bF, bG, bH⟩ := b2.zf5 cO
 go_wp2
 refine bodyPost_ret (v := .agg #[.bool nq, .int .u64 (lo Q : Int), .string (mo Q), .int .u64 ((0 : Nat) : Int), .string ⟨#[]⟩]) (by simp [results, Tryz.results31, go_sem, bD, bE, bF, bG, bH]) rfl ?_
 exact ⟨rfl, Yt cT (by omega) _ _ _ _ _⟩
set_option maxRecDepth 100000 in
set_option maxHeartbeats 2000000 in
theorem Jfq (a b : Rat) (w : World) (ha : QS 549755813888 a) (hb : QS 549755813888 b) (hw : (decide (a.den = 1) && decide (b.den = 1)) = false) (hT : Tab w) :
  Calls Tryz.prog 31 #[qV a, qV b] w (Ret (qV (a * b)) w) := by
 have aM := fun w => Qn a w (ha.mono (by omega))
 have aJ := fun w => Qn b w (hb.mono (by omega))
 have bL := fun w => Kg a w (ha.mono (by omega))
 have bM := fun w => Kg b w (hb.mono (by omega))
 have aR := fun w => Qc false a.den w (by have := ha.2; omega)
 have aS := fun w => Qc false b.den w (by have := hb.2; omega)
 rw [show signed false a.den = (a.den : Int) from rfl] at aR
 rw [show signed false b.den = (b.den : Int) from rfl] at aS
 have aT := fun w (hT : Tab w) => Uq a.num b.den w ha.1 (by rw [Int.natAbs_natCast]; exact hb.2) hT
 have aU := fun w (hT : Tab w) => Uq b.num a.den w hb.1 (by rw [Int.natAbs_natCast]; exact ha.2) hT
 rw [Int.natAbs_natCast] at aT aU
 obtain ⟨q1, q2⟩ := Jer a b rfl rfl
 have cP : QS 1099511627776 (a * b) := (ha.mul hb).mono (by omega)
 have g1 := Nat.gcd_dvd_left a.num.natAbs b.den
 have g2 := Nat.gcd_dvd_right a.num.natAbs b.den
 have g3 := Nat.gcd_dvd_left b.num.natAbs a.den
 have g4 := Nat.gcd_dvd_right b.num.natAbs a.den
 have g5 : Nat.gcd a.num.natAbs b.den ≠ 0 := fun h => b.den_nz (Nat.gcd_eq_zero_iff.1 h).2
 have g6 : Nat.gcd b.num.natAbs a.den ≠ 0 := fun h => a.den_nz (Nat.gcd_eq_zero_iff.1 h).2
 have g7 := nt (Jz (Nat.le_of_dvd b.den_pos g2)) hb.2
 have g8 := nt (Jz (Nat.le_of_dvd a.den_pos g4)) ha.2
 generalize Nat.gcd a.num.natAbs b.den = G at *
 generalize Nat.gcd b.num.natAbs a.den = H at *
 have bN := fun w => Ja0 a.num G w (by have := ha.1; omega) (by omega) g5 g1
 have bO := fun w => Ja0 b.num H w (by have := hb.1; omega) (by omega) g6 g3
 have cA := fun w => Yw a.den H w (by have := ha.2; omega) (by omega) g6
 have cB := fun w => Yw b.den G w (by have := hb.2; omega) (by omega) g5
 have bP := fun w => Jb8 (a.num / (G : Int)) (b.num / (H : Int)) w (by have := ha.1; have := Ja3 g1; omega) (by have := hb.1; have := Ja3 g3; omega)
 have hm2 := fun w => Jgl (a.den / H) (b.den / G) w (by have := ha.2; have := Zo a.den H; omega) (by have := hb.2; have := Zo b.den G; omega)
 have bI := fun w => Ja1 (a * b) w cP
 rw [<- q1] at bP
 rw [<- q2] at hm2
 clear q1 q2 cP g1 g2 g3 g4 g5 g6 g7 g8
 unfold Jh at bL bM aR aS aT aU bN bO cA cB hm2 bI
 unfold Jx at aR aS aT aU bN bO bP bI
 unfold qV at aM aJ bL bM bI ⊢
 rw [Int.natAbs_natCast] at aR aS aT aU
 generalize a.num / (G : Int) = p1 at *
 generalize b.num / (H : Int) = p2 at *
 generalize a.den / H = d1 at *
 generalize b.den / G = d2 at *
 generalize a * b = q at *
 generalize decide (a.den = 1) = wa at *
 generalize decide (b.den = 1) = wb at *
 generalize decide (a.num < 0) = na at *
 generalize decide (b.num < 0) = nb at *
 generalize decide (q.num < 0) = nq at *
 generalize decide (p1 < 0) = np1 at *
 generalize decide (p2 < 0) = np2 at *
 generalize decide ((a.den : Int) < 0) = nda at *
 generalize decide ((b.den : Int) < 0) = ndb at *
 clear ha hb
 generalize qden a = ea at *
 generalize qden b = eb at *
 generalize qden q = eq at *
 generalize a.num.natAbs = A at *
 generalize b.num.natAbs = B at *
 generalize q.num.natAbs = Q at *
 generalize p1.natAbs = P1 at *
 generalize p2.natAbs = P2 at *
 generalize a.den = da at *
 generalize b.den = db at *
 generalize q.den = dq at *
 have HWA := lh aM
 have HWB := lh aJ
 have HDA := lh bL
 have HDB := lh bM
 have HFA := lh aR
 have HFB := lh aS
 have HGG := lh aT
 have HGH := lh aU
 have HPA := lh bN
 have HPB := lh bO
 have HOA := lh cA
 have HOB := lh cB
 have HM1 := lh bP
 have HM2 := lh hm2
 have HPK := lh bI
 clear aM aJ bL bM aR aS aT aU bN bO cA cB bP hm2 bI
 obtain ⟨b0, b1, b2, hB, hZ⟩ := bx3 w 65 #[.bool na, .int .u64 (lo A : Int), .string (mo A), .int .u64 (lo ea : Int), .string (mo ea)] 65 #[.bool nb, .int .u64 (lo B : Int), .string (mo B), .int .u64 (lo eb : Int), .string (mo eb)] 65 #[.bool false, .int .u64 0, .string ⟨#[]⟩, .int .u64 0, .string ⟨#[]⟩]
 have tT := hT.next hB
 go_enter Tryz.func31, Tryz.ntmps31
 go_upto_region 1 with fail
 generalize (((w.alloc (.cells #[.bool na, .int .u64 (lo A : Int), .string (mo A), .int .u64 (lo ea : Int), .string (mo ea)] 65)).alloc (.cells #[.bool nb, .int .u64 (lo B : Int), .string (mo B), .int .u64 (lo eb : Int), .string (mo eb)] 65)).alloc (.cells #[.bool false, .int .u64 0, .string ⟨#[]⟩, .int .u64 0, .string ⟨#[]⟩] 65)) = W at *
 have dO : W.heap.size = w.heap.size + 1 + 1 + 1 := hZ.out
 go_cut [12] (fun v wc => v = .bool false /\ Below W.heap.size W wc)
 case first =>
  obtain ⟨x8, x9, y8, y9, aA⟩ := b0.c5; obtain ⟨aB, aC, aD, aE, aF⟩ := b1.c5
  go_wp2_with fail
  refine (HWA.out _).mono ?_
  rintro e w1 ⟨rfl, o8⟩
  (try clear x8 x9 y8 y9 aA); obtain ⟨b0, x8, x9, y8, y9, aA⟩ := b0.zc5 o8; (try clear aB aC aD aE aF); obtain ⟨b1, aB, aC, aD, aE, aF⟩ := b1.zc5 o8
  cases wa with
  | true =>
   have aJ : wb = false := by simpa using hw
   subst aJ
   go_wp2_with fail
   refine (HWB.out _).mono ?_
   rintro e w2 ⟨rfl, aQ⟩
   go_wp2
   go_meet
   exact ⟨rfl, Ja o8 aQ⟩
  | false =>
   go_wp2
   go_meet
   exact ⟨rfl, o8⟩
 case rest =>
  obtain ⟨rfl, aP⟩ := hcut
  rename World => wc
  clear HWA HWB hw
  have b0 := b0.below aP b0.lt
  have b1 := b1.below aP b1.lt
  have b2 := b2.below aP b2.lt
  have tT := tT.next aP
  go_upto_region 3 with fail
  go_cut [5] (fun v wd => Vr wc 61 #[.int .u64 (lo G : Int), .string (mo G)] v wd)
  case first =>
   obtain ⟨x8, x9, y8, y9, aA⟩ := b0.c5; have aN := b0.lt; have c0 := b0.drew; have q8 := c0.lt; obtain ⟨aB, aC, aD, aE, aF⟩ := b1.c5; have aO := b1.lt; have c1 := b1.drew; have s9 := c1.lt; have hc := Ji wc; have tT : Tab wc.drew := tT; go_region_held3 (fun w' => w'.cell? ⟨w.heap.size, 0, none⟩ = some (.bool na) /\ w'.cell? ⟨w.heap.size, 1, none⟩ = some (.int .u64 (lo A : Int)) /\ w'.cell? ⟨w.heap.size, 2, none⟩ = some (.string (mo A)) /\ w'.cell? ⟨w.heap.size, 3, none⟩ = some (.int .u64 (lo ea : Int)) /\ w'.cell? ⟨w.heap.size, 4, none⟩ = some (.string (mo ea)) /\ w'.cell? ⟨w.heap.size + 1, 0, none⟩ = some (.bool nb) /\ w'.cell? ⟨w.heap.size + 1, 1, none⟩ = some (.int .u64 (lo B : Int)) /\ w'.cell? ⟨w.heap.size + 1, 2, none⟩ = some (.string (mo B)) /\ w'.cell? ⟨w.heap.size + 1, 3, none⟩ = some (.int .u64 (lo eb : Int)) /\ w'.cell? ⟨w.heap.size + 1, 4, none⟩ = some (.string (mo eb))) (go_keep) (first | (go_at_call 75; refine (HDB.out _).mono ?_; rintro e w1 ⟨rfl, t7⟩; (try clear e8 e9 j0 j6 j7); obtain ⟨c0, e8, e9, j0, j6, j7⟩ := c0.zc5 t7; (try clear q8); have q8 := c0.lt; (try clear j8 j9 o0 o6 o7); obtain ⟨c1, j8, j9, o0, o6, o7⟩ := c1.zc5 t7; (try clear s9); have s9 := c1.lt; (try have ca := ca.yy t7); (first | have tT := tT.next t7 | have tT := (tT.next (Jb _ _)).next t7 | have tT := (tT.next (Jj _ _ _)).next t7); (first | have hc := Ja hc t7 | (have o8 := Qy hc t7; obtain ⟨ca, u4, hc⟩ := o8) | (have o8 := Xg hc t7; obtain ⟨ca, u4, hc⟩ := o8)); (try have aK := Jv aN u4); (try have aL := Jv aO u4)) | (go_at_call 67; refine (HFB.out _).mono ?_; rintro e w2 ⟨rfl, t8⟩; (try clear e8 e9 j0 j6 j7); obtain ⟨c0, e8, e9, j0, j6, j7⟩ := c0.zc5 t8; (try clear q8); have q8 := c0.lt; (try clear j8 j9 o0 o6 o7); obtain ⟨c1, j8, j9, o0, o6, o7⟩ := c1.zc5 t8; (try clear s9); have s9 := c1.lt; (try have ca := ca.yy t8); (first | have tT := tT.next t8 | have tT := (tT.next (Jb _ _)).next t8 | have tT := (tT.next (Jj _ _ _)).next t8); (first | have hc := Ja hc t8 | (have o8 := Qy hc t8; obtain ⟨ca, u4, hc⟩ := o8) | (have o8 := Xg hc t8; obtain ⟨ca, u4, hc⟩ := o8)); (try have aK := Jv aN u4); (try have aL := Jv aO u4)) | (go_at_call 74; (first | refine (HGG.out _ tT).mono ?_ | refine (HGG.out _ (tT.next (Jb _ _))).mono ?_ | refine (HGG.out _ (tT.next (Jj _ _ _))).mono ?_); rintro e w3 ⟨rfl, x7⟩; (try clear e8 e9 j0 j6 j7); obtain ⟨c0, e8, e9, j0, j6, j7⟩ := c0.zc5 x7; (try clear q8); have q8 := c0.lt; (try clear j8 j9 o0 o6 o7); obtain ⟨c1, j8, j9, o0, o6, o7⟩ := c1.zc5 x7; (try clear s9); have s9 := c1.lt; (try have ca := ca.yy x7); (first | have hc := Ja hc x7 | (have o8 := Qy hc x7; obtain ⟨ca, u4, hc⟩ := o8) | (have o8 := Xg hc x7; obtain ⟨ca, u4, hc⟩ := o8)); (try have aK := Jv aN u4); (try have aL := Jv aO u4); (try (have cU := ca.lt; obtain ⟨cC, cD, cE, cF, cG, cH⟩ := ca.f2))))
   all_goals
    go_wp2
    go_meet
    (first | exact Jeu hc ca u4 | exact Jeu (Ja hc (Jb _ _)) (Blk.new _ _ _) hc.size | exact ⟨_, rfl, hc.size, Blk.new _ _ _, Ja hc (Jb _ _)⟩)
  case rest =>
   obtain ⟨g, rfl, hg, b5, aV⟩ := hcut
   rename World => wd
   have b0 := b0.below aV b0.lt
   have b1 := b1.below aV b1.lt
   have b2 := b2.below aV b2.lt
   have tT := tT.next aV
   have cV := nt aP.size hg
   have cI := Ja aP aV
   clear aP aV hg HFB HGG
   go_upto_region 4 with fail
   go_cut [6] (fun v we => Vr wd 61 #[.int .u64 (lo H : Int), .string (mo H)] v we)
   case first =>
    obtain ⟨x8, x9, y8, y9, aA⟩ := b0.c5; have aN := b0.lt; have c0 := b0.drew; have q8 := c0.lt; obtain ⟨aB, aC, aD, aE, aF⟩ := b1.c5; have aO := b1.lt; have c1 := b1.drew; have s9 := c1.lt; have hc := Ji wd; have tT : Tab wd.drew := tT; go_region_held3 (fun w' => w'.cell? ⟨w.heap.size, 0, none⟩ = some (.bool na) /\ w'.cell? ⟨w.heap.size, 1, none⟩ = some (.int .u64 (lo A : Int)) /\ w'.cell? ⟨w.heap.size, 2, none⟩ = some (.string (mo A)) /\ w'.cell? ⟨w.heap.size, 3, none⟩ = some (.int .u64 (lo ea : Int)) /\ w'.cell? ⟨w.heap.size, 4, none⟩ = some (.string (mo ea)) /\ w'.cell? ⟨w.heap.size + 1, 0, none⟩ = some (.bool nb) /\ w'.cell? ⟨w.heap.size + 1, 1, none⟩ = some (.int .u64 (lo B : Int)) /\ w'.cell? ⟨w.heap.size + 1, 2, none⟩ = some (.string (mo B)) /\ w'.cell? ⟨w.heap.size + 1, 3, none⟩ = some (.int .u64 (lo eb : Int)) /\ w'.cell? ⟨w.heap.size + 1, 4, none⟩ = some (.string (mo eb))) (go_keep) (first | (go_at_call 75; refine (HDA.out _).mono ?_; rintro e w1 ⟨rfl, t7⟩; (try clear e8 e9 j0 j6 j7); obtain ⟨c0, e8, e9, j0, j6, j7⟩ := c0.zc5 t7; (try clear q8); have q8 := c0.lt; (try clear j8 j9 o0 o6 o7); obtain ⟨c1, j8, j9, o0, o6, o7⟩ := c1.zc5 t7; (try clear s9); have s9 := c1.lt; (try have ca := ca.yy t7); (first | have tT := tT.next t7 | have tT := (tT.next (Jb _ _)).next t7 | have tT := (tT.next (Jj _ _ _)).next t7); (first | have hc := Ja hc t7 | (have o8 := Qy hc t7; obtain ⟨ca, u4, hc⟩ := o8) | (have o8 := Xg hc t7; obtain ⟨ca, u4, hc⟩ := o8)); (try have aK := Jv aN u4); (try have aL := Jv aO u4)) | (go_at_call 67; refine (HFA.out _).mono ?_; rintro e w2 ⟨rfl, t8⟩; (try clear e8 e9 j0 j6 j7); obtain ⟨c0, e8, e9, j0, j6, j7⟩ := c0.zc5 t8; (try clear q8); have q8 := c0.lt; (try clear j8 j9 o0 o6 o7); obtain ⟨c1, j8, j9, o0, o6, o7⟩ := c1.zc5 t8; (try clear s9); have s9 := c1.lt; (try have ca := ca.yy t8); (first | have tT := tT.next t8 | have tT := (tT.next (Jb _ _)).next t8 | have tT := (tT.next (Jj _ _ _)).next t8); (first | have hc := Ja hc t8 | (have o8 := Qy hc t8; obtain ⟨ca, u4, hc⟩ := o8) | (have o8 := Xg hc t8; obtain ⟨ca, u4, hc⟩ := o8)); (try have aK := Jv aN u4); (try have aL := Jv aO u4)) | (go_at_call 74; (first | refine (HGH.out _ tT).mono ?_ | refine (HGH.out _ (tT.next (Jb _ _))).mono ?_ | refine (HGH.out _ (tT.next (Jj _ _ _))).mono ?_); rintro e w3 ⟨rfl, x7⟩; (try clear e8 e9 j0 j6 j7); obtain ⟨c0, e8, e9, j0, j6, j7⟩ := c0.zc5 x7; (try clear q8); have q8 := c0.lt; (try clear j8 j9 o0 o6 o7); obtain ⟨c1, j8, j9, o0, o6, o7⟩ := c1.zc5 x7; (try clear s9); have s9 := c1.lt; (try have ca := ca.yy x7); (first | have hc := Ja hc x7 | (have o8 := Qy hc x7; obtain ⟨ca, u4, hc⟩ := o8) | (have o8 := Xg hc x7; obtain ⟨ca, u4, hc⟩ := o8)); (try have aK := Jv aN u4); (try have aL := Jv aO u4); (try (have cU := ca.lt; obtain ⟨cC, cD, cE, cF, cG, cH⟩ := ca.f2))))
    all_goals
     go_wp2
     go_meet
     (first | exact Jeu hc ca u4 | exact Jeu (Ja hc (Jb _ _)) (Blk.new _ _ _) hc.size | exact ⟨_, rfl, hc.size, Blk.new _ _ _, Ja hc (Jb _ _)⟩)
   case rest =>
    obtain ⟨h, rfl, hh, b6, aW⟩ := hcut
    rename World => we
    have b0 := b0.below aW b0.lt
    have b1 := b1.below aW b1.lt
    have b2 := b2.below aW b2.lt
    have b5 := b5.below aW b5.lt
    have cW := nt cI.size hh
    have cZ := Ja hB (Ja cI aW)
    clear cI aW hh HFA HGH tT
    have n0 := Jv (show w.heap.size < w.heap.size + 1 + 1 by omega) zd
    have n1 := Jv (show w.heap.size + 1 < w.heap.size + 1 + 1 by omega) zd
    have n2 := Jv (show w.heap.size + 1 + 1 < W.heap.size by omega) cV
    have n3 := Jv (show w.heap.size + 1 + 1 < W.heap.size by omega) cW
    go_upto_region 5 with fail
    obtain ⟨x8, x9, y8, y9, aA⟩ := b0.c5; have aN := b0.lt; have c0 := b0.drew; have q8 := c0.lt; obtain ⟨aB, aC, aD, aE, aF⟩ := b1.c5; have aO := b1.lt; have c1 := b1.drew; have s9 := c1.lt; obtain ⟨dA, dB⟩ := b5.c2; have dP := b5.lt; have c5 := b5.drew; have aG := c5.lt; obtain ⟨dC, dD⟩ := b6.c2; have dQ := b6.lt; have c6 := b6.drew; have aH := c6.lt; have c2 := b2.drew; have aI := c2.lt; have hc := Ji we; go_region_held3 (fun w' => w'.cell? ⟨w.heap.size, 0, none⟩ = some (.bool na) /\ w'.cell? ⟨w.heap.size, 1, none⟩ = some (.int .u64 (lo A : Int)) /\ w'.cell? ⟨w.heap.size, 2, none⟩ = some (.string (mo A)) /\ w'.cell? ⟨w.heap.size, 3, none⟩ = some (.int .u64 (lo ea : Int)) /\ w'.cell? ⟨w.heap.size, 4, none⟩ = some (.string (mo ea)) /\ w'.cell? ⟨w.heap.size + 1, 0, none⟩ = some (.bool nb) /\ w'.cell? ⟨w.heap.size + 1, 1, none⟩ = some (.int .u64 (lo B : Int)) /\ w'.cell? ⟨w.heap.size + 1, 2, none⟩ = some (.string (mo B)) /\ w'.cell? ⟨w.heap.size + 1, 3, none⟩ = some (.int .u64 (lo eb : Int)) /\ w'.cell? ⟨w.heap.size + 1, 4, none⟩ = some (.string (mo eb)) /\ w'.cell? ⟨g, 0, none⟩ = some (.int .u64 (lo G : Int)) /\ w'.cell? ⟨g, 1, none⟩ = some (.string (mo G)) /\ w'.cell? ⟨h, 0, none⟩ = some (.int .u64 (lo H : Int)) /\ w'.cell? ⟨h, 1, none⟩ = some (.string (mo H))) (go_keep) (first | (go_at_call 77; refine (HPA.out _).mono ?_; rintro e w1 ⟨rfl, t7⟩; (try clear e8 e9 j0 j6 j7); obtain ⟨c0, e8, e9, j0, j6, j7⟩ := c0.zc5 t7; (try clear q8); have q8 := c0.lt; (try clear j8 j9 o0 o6 o7); obtain ⟨c1, j8, j9, o0, o6, o7⟩ := c1.zc5 t7; (try clear s9); have s9 := c1.lt; (try clear o9 p7); obtain ⟨c5, o9, p7⟩ := c5.zc2 t7; (try clear aG); have aG := c5.lt; (try clear p8 p9); obtain ⟨c6, p8, p9⟩ := c6.zc2 t7; (try clear aH); have aH := c6.lt; have c2 := c2.yy t7; (try clear aI); have aI := c2.lt; have hc := Ja hc t7) | (go_at_call 77; refine (HPB.out _).mono ?_; rintro e w2 ⟨rfl, t8⟩; (try clear e8 e9 j0 j6 j7); obtain ⟨c0, e8, e9, j0, j6, j7⟩ := c0.zc5 t8; (try clear q8); have q8 := c0.lt; (try clear j8 j9 o0 o6 o7); obtain ⟨c1, j8, j9, o0, o6, o7⟩ := c1.zc5 t8; (try clear s9); have s9 := c1.lt; (try clear o9 p7); obtain ⟨c5, o9, p7⟩ := c5.zc2 t8; (try clear aG); have aG := c5.lt; (try clear p8 p9); obtain ⟨c6, p8, p9⟩ := c6.zc2 t8; (try clear aH); have aH := c6.lt; have c2 := c2.yy t8; (try clear aI); have aI := c2.lt; have hc := Ja hc t8) | (go_at_call 73; refine (HM1.out _).mono ?_; rintro e w3 ⟨rfl, x7⟩; (try clear e8 e9 j0 j6 j7); obtain ⟨c0, e8, e9, j0, j6, j7⟩ := c0.zc5 x7; (try clear q8); have q8 := c0.lt; (try clear j8 j9 o0 o6 o7); obtain ⟨c1, j8, j9, o0, o6, o7⟩ := c1.zc5 x7; (try clear s9); have s9 := c1.lt; (try clear o9 p7); obtain ⟨c5, o9, p7⟩ := c5.zc2 x7; (try clear aG); have aG := c5.lt; (try clear p8 p9); obtain ⟨c6, p8, p9⟩ := c6.zc2 x7; (try clear aH); have aH := c6.lt; have c2 := c2.yy x7; (try clear aI); have aI := c2.lt; have hc := Ja hc x7) | (go_at_call 75; refine (HDA.out _).mono ?_; rintro e w4 ⟨rfl, aX⟩; (try clear e8 e9 j0 j6 j7); obtain ⟨c0, e8, e9, j0, j6, j7⟩ := c0.zc5 aX; (try clear q8); have q8 := c0.lt; (try clear j8 j9 o0 o6 o7); obtain ⟨c1, j8, j9, o0, o6, o7⟩ := c1.zc5 aX; (try clear s9); have s9 := c1.lt; (try clear o9 p7); obtain ⟨c5, o9, p7⟩ := c5.zc2 aX; (try clear aG); have aG := c5.lt; (try clear p8 p9); obtain ⟨c6, p8, p9⟩ := c6.zc2 aX; (try clear aH); have aH := c6.lt; have c2 := c2.yy aX; (try clear aI); have aI := c2.lt; have hc := Ja hc aX) | (go_at_call 78; refine (HOA.out _).mono ?_; rintro e w5 ⟨rfl, aY⟩; (try clear e8 e9 j0 j6 j7); obtain ⟨c0, e8, e9, j0, j6, j7⟩ := c0.zc5 aY; (try clear q8); have q8 := c0.lt; (try clear j8 j9 o0 o6 o7); obtain ⟨c1, j8, j9, o0, o6, o7⟩ := c1.zc5 aY; (try clear s9); have s9 := c1.lt; (try clear o9 p7); obtain ⟨c5, o9, p7⟩ := c5.zc2 aY; (try clear aG); have aG := c5.lt; (try clear p8 p9); obtain ⟨c6, p8, p9⟩ := c6.zc2 aY; (try clear aH); have aH := c6.lt; have c2 := c2.yy aY; (try clear aI); have aI := c2.lt; have hc := Ja hc aY) | (go_at_call 75; refine (HDB.out _).mono ?_; rintro e w6 ⟨rfl, aZ⟩; (try clear e8 e9 j0 j6 j7); obtain ⟨c0, e8, e9, j0, j6, j7⟩ := c0.zc5 aZ; (try clear q8); have q8 := c0.lt; (try clear j8 j9 o0 o6 o7); obtain ⟨c1, j8, j9, o0, o6, o7⟩ := c1.zc5 aZ; (try clear s9); have s9 := c1.lt; (try clear o9 p7); obtain ⟨c5, o9, p7⟩ := c5.zc2 aZ; (try clear aG); have aG := c5.lt; (try clear p8 p9); obtain ⟨c6, p8, p9⟩ := c6.zc2 aZ; (try clear aH); have aH := c6.lt; have c2 := c2.yy aZ; (try clear aI); have aI := c2.lt; have hc := Ja hc aZ) | (go_at_call 78; refine (HOB.out _).mono ?_; rintro e w7 ⟨rfl, bA⟩; (try clear e8 e9 j0 j6 j7); obtain ⟨c0, e8, e9, j0, j6, j7⟩ := c0.zc5 bA; (try clear q8); have q8 := c0.lt; (try clear j8 j9 o0 o6 o7); obtain ⟨c1, j8, j9, o0, o6, o7⟩ := c1.zc5 bA; (try clear s9); have s9 := c1.lt; (try clear o9 p7); obtain ⟨c5, o9, p7⟩ := c5.zc2 bA; (try clear aG); have aG := c5.lt; (try clear p8 p9); obtain ⟨c6, p8, p9⟩ := c6.zc2 bA; (try clear aH); have aH := c6.lt; have c2 := c2.yy bA; (try clear aI); have aI := c2.lt; have hc := Ja hc bA) | (go_at_call 79; refine (HM2.out _).mono ?_; rintro e w8 ⟨rfl, bB⟩; (try clear e8 e9 j0 j6 j7); obtain ⟨c0, e8, e9, j0, j6, j7⟩ := c0.zc5 bB; (try clear q8); have q8 := c0.lt; (try clear j8 j9 o0 o6 o7); obtain ⟨c1, j8, j9, o0, o6, o7⟩ := c1.zc5 bB; (try clear s9); have s9 := c1.lt; (try clear o9 p7); obtain ⟨c5, o9, p7⟩ := c5.zc2 bB; (try clear aG); have aG := c5.lt; (try clear p8 p9); obtain ⟨c6, p8, p9⟩ := c6.zc2 bB; (try clear aH); have aH := c6.lt; have c2 := c2.yy bB; (try clear aI); have aI := c2.lt; have hc := Ja hc bB) | (go_at_call 76; refine (HPK.out _).mono ?_; rintro e w9 ⟨rfl, bC⟩; (try clear e8 e9 j0 j6 j7); obtain ⟨c0, e8, e9, j0, j6, j7⟩ := c0.zc5 bC; (try clear q8); have q8 := c0.lt; (try clear j8 j9 o0 o6 o7); obtain ⟨c1, j8, j9, o0, o6, o7⟩ := c1.zc5 bC; (try clear s9); have s9 := c1.lt; (try clear o9 p7); obtain ⟨c5, o9, p7⟩ := c5.zc2 bC; (try clear aG); have aG := c5.lt; (try clear p8 p9); obtain ⟨c6, p8, p9⟩ := c6.zc2 bC; (try clear aH); have aH := c6.lt; have c2 := c2.yy bC; (try clear aI); have aI := c2.lt; have hc := Ja hc bC; obtain ⟨dE, dF, dG, dH, dI, dJ, dK, dL, dM, dN, cJ, cK, cL, cM, cN⟩ := c2.f5))
    all_goals
     go_wp2
     refine bodyPost_ret (v := .agg #[.bool nq, .int .u64 (lo Q : Int), .string (mo Q), .int .u64 (lo eq : Int), .string (mo eq)]) (by simp [results, Tryz.results31, go_sem, cJ, cK, cL, cM, cN]) rfl ?_
     exact ⟨rfl, Yt (Ja cZ hc) (by omega) _ _ _ _ _⟩
theorem Jid (a b : Rat) (w : World) (ha : QS 549755813888 a) (hb : QS 549755813888 b) (hT : Tab w) :
  Calls Tryz.prog 31 #[qV a, qV b] w (Ret (qV (a * b)) w) := by
 by_cases h1 : a.den = 1
 ·by_cases h2 : b.den = 1
  ·exact Jk2 a b w ha hb h1 h2
  exact Jfq a b w ha hb (by simp [h2]) hT
 exact Jfq a b w ha hb (by simp [h1]) hT
