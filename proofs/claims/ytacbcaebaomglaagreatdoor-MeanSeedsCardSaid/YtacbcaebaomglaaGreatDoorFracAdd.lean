import Derived.Test.YtacbcaebaomglaaGreatDoorFracM
import Derived.Test.YtacbcaebaomglaaGreatDoorWholeAdd
namespace Go.Proofs.YtacbcaebaomglaaGreatDoor
set_option maxRecDepth 100000
set_option maxHeartbeats 8000000
open Go.RowKit
set_option linter.all false
attribute [local irreducible] lo mo Calls
set_option maxRecDepth 100000 in
set_option maxHeartbeats 1000000 in
theorem Jk4 (a b : Rat) (w : World) (ha : QS 137438953472 a) (hb : QS 137438953472 b) (bR : a.den = 1) (e8 : b.den = 1) :
  Calls Tryz.prog 53 #[qV a, qV b] w (Ret (qV (a + b)) w) := by
 have bB := fun w => Qn a w (ha.mono (by omega))
 have aW := fun w => Qn b w (hb.mono (by omega))
 rw [decide_eq_true bR] at bB
 rw [decide_eq_true e8] at aW
 have cH := fun w => Je8 a.num b.num w (by have := ha.1; omega) (by have := hb.1; omega)
 obtain ⟨q1, q2⟩ := Jes a b bR e8
 have q3 := (Yg (a + b)).2 q2
 have q4 := (Yg a).2 bR
 have q5 := (Yg b).2 e8
 rw [<- q1] at cH
 unfold qV at bB aW ⊢
 rw [q4] at bB
 rw [q5] at aW
 rw [q3, q4, q5, Qa 0 (by omega), Ju 0 (by omega)]
 rw [Qa 0 (by omega), Ju 0 (by omega)] at bB aW
 unfold Jx at cH
 clear q1 q2 q3 q4 q5 ha hb bR e8
 generalize decide (a.num < 0) = na at *
 generalize decide (b.num < 0) = nb at *
 generalize decide ((a + b).num < 0) = nq at *
 generalize (a + b).num.natAbs = Q at *
 generalize a.num.natAbs = A at *
 generalize b.num.natAbs = B at *
 have HWA := lh bB
 have HWB := lh aW
 have HMU := lh cH
 clear bB aW cH
 obtain ⟨b0, b1, b2, hB, hZ⟩ := bx3 w 65 #[.bool na, .int .u64 (lo A : Int), .string (mo A), .int .u64 ((0 : Nat) : Int), .string ⟨#[]⟩] 65 #[.bool nb, .int .u64 (lo B : Int), .string (mo B), .int .u64 ((0 : Nat) : Int), .string ⟨#[]⟩] 65 #[.bool false, .int .u64 0, .string ⟨#[]⟩, .int .u64 0, .string ⟨#[]⟩]
 go_enter Tryz.func53, Tryz.ntmps53
 go_wp2_with fail
 generalize (((w.alloc (.cells #[.bool na, .int .u64 (lo A : Int), .string (mo A), .int .u64 ((0 : Nat) : Int), .string ⟨#[]⟩] 65)).alloc (.cells #[.bool nb, .int .u64 (lo B : Int), .string (mo B), .int .u64 ((0 : Nat) : Int), .string ⟨#[]⟩] 65)).alloc (.cells #[.bool false, .int .u64 0, .string ⟨#[]⟩, .int .u64 0, .string ⟨#[]⟩] 65)) = W at *
 refine (HWA.out _).mono ?_
 rintro e w1 ⟨rfl, e8⟩
 have eB := Ja hB e8
 (try clear aI aJ aK aL aM); obtain ⟨b0, aI, aJ, aK, aL, aM⟩ := b0.zc5 e8; (try clear aD aE aF aG aH); obtain ⟨b1, aD, aE, aF, aG, aH⟩ := b1.zc5 e8
 have b2 := b2.below e8 b2.lt
 go_wp2_with fail
 refine (HWB.out _).mono ?_
 rintro e w2 ⟨rfl, bE⟩
 have eC := Ja eB bE
 (try clear aI aJ aK aL aM); obtain ⟨b0, aI, aJ, aK, aL, aM⟩ := b0.zc5 bE; (try clear aD aE aF aG aH); obtain ⟨b1, aD, aE, aF, aG, aH⟩ := b1.zc5 bE
 have b2 := b2.below bE b2.lt
 go_wp2_with fail
 refine (HMU.out _).mono ?_
 rintro e w3 ⟨rfl, dY⟩
 have eD := Ja eC dY
 (try clear cQ cS cT cU cV cW cZ dA dB dC bY bZ cA cB cC); obtain ⟨b2, cQ, cS, cT, cU, cV, cW, cZ, dA, dB, dC, bY, bZ, cA, cB, cC⟩ := b2.zf5 dY
 go_wp2
 refine bodyPost_ret (v := .agg #[.bool nq, .int .u64 (lo Q : Int), .string (mo Q), .int .u64 ((0 : Nat) : Int), .string ⟨#[]⟩]) (by simp [results, Tryz.results53, go_sem, bY, bZ, cA, cB, cC]) rfl ?_
 exact ⟨rfl, Yt eD (by omega) _ _ _ _ _⟩
set_option maxRecDepth 100000 in
set_option maxHeartbeats 8000000 in
theorem Jfr (a b : Rat) (w : World) (ha : QS 137438953472 a) (hb : QS 137438953472 b) (hw : (decide (a.den = 1) && decide (b.den = 1)) = false) (hT : Tab w) :
  Calls Tryz.prog 53 #[qV a, qV b] w (Ret (qV (a + b)) w) := by
 have bR := ha.1
 have dZ := ha.2
 have e8 := hb.1
 have bE := hb.2
 have bB := fun w => Qn a w (ha.mono (by omega))
 have aW := fun w => Qn b w (hb.mono (by omega))
 have cI := fun w => Kg a w (ha.mono (by omega))
 have cJ := fun w => Kg b w (hb.mono (by omega))
 have bS := fun w => Qc false a.den w (by omega)
 have bT := fun w => Qc false b.den w (by omega)
 rw [show signed false a.den = (a.den : Int) from rfl] at bS
 rw [show signed false b.den = (b.den : Int) from rfl] at bT
 have bF := fun w (hT : Tab w) => Uq a.den b.den w (by rw [Int.natAbs_natCast]; omega) (by rw [Int.natAbs_natCast]; omega) hT
 rw [Int.natAbs_natCast, Int.natAbs_natCast] at bF
 obtain ⟨G, hG⟩ : ∃ G, Nat.gcd a.den b.den = G := ⟨_, rfl⟩
 rw [hG] at bF
 have g1 : G ∣ a.den := by rw [<- hG]; exact Nat.gcd_dvd_left ..
 have g2 : G ∣ b.den := by rw [<- hG]; exact Nat.gcd_dvd_right ..
 have g3 : G ≠ 0 := fun h => a.den_nz (Nat.gcd_eq_zero_iff.1 (hG.trans h)).1
 have g4 := nt (Jz (Nat.le_of_dvd a.den_pos g1)) dZ
 have bU := fun w => Qc false G w (by omega)
 rw [show signed false G = (G : Int) from rfl] at bU
 obtain ⟨D, hD⟩ : ∃ D, a.den / G = D := ⟨_, rfl⟩
 obtain ⟨O, hO⟩ : ∃ O, b.den / G = O := ⟨_, rfl⟩
 have d1 : Je D <= 137438953472 := by rw [<- hD]; have := Zo a.den G; omega
 have d2 : Je O <= 137438953472 := by rw [<- hO]; have := Zo b.den G; omega
 have cK := fun w => Yw a.den G w (by omega) (by omega) g3
 have cL := fun w => Yw b.den G w (by omega) (by omega) g3
 rw [hD] at cK
 rw [hO] at cL
 have cM := fun w => Vm a.num O w (by omega) (by omega)
 have cN := fun w => Vm b.num D w (by omega) (by omega)
 have t1 := Yy a.num O
 have t2 := Yy b.num D
 rw [Int.natAbs_natCast] at t1 t2
 have cO := fun w => Je8 (a.num * O) (b.num * D) w (by omega) (by omega)
 have t3 := Jf3 (a.num * O) (b.num * D)
 obtain ⟨U, hU⟩ : ∃ U, a.num * (O : Int) + b.num * (D : Int) = U := ⟨_, rfl⟩
 rw [hU] at cO t3
 have t4 : Je U.natAbs <= 549755813888 := by omega
 have bG := fun w (hT : Tab w) => Uq U G w t4 (by rw [Int.natAbs_natCast]; omega) hT
 rw [Int.natAbs_natCast] at bG
 obtain ⟨H, hH⟩ : ∃ H, Nat.gcd U.natAbs G = H := ⟨_, rfl⟩
 rw [hH] at bG
 have e1 : H ∣ U.natAbs := by rw [<- hH]; exact Nat.gcd_dvd_left ..
 have e2 : H ∣ G := by rw [<- hH]; exact Nat.gcd_dvd_right ..
 have e3 : H ≠ 0 := fun h => g3 (Nat.gcd_eq_zero_iff.1 (hH.trans h)).2
 have e4 := nt (Jz (Nat.le_of_dvd (by omega) e2)) g4
 obtain ⟨q1, q2⟩ := Jet a b hG hD hO hU hH
 have eA : QS 1099511627776 (a + b) := (ha.add hb).mono (by omega)
 have cD := fun w => Ja0 U H w (by omega) (by omega) e3 e1
 have dD := fun w => Yw b.den H w (by omega) (by omega) e3
 have hm2 := fun w => Jgl D (b.den / H) w (by omega) (by have := Zo b.den H; omega)
 have cE := fun w => Ja1 (a + b) w eA
 rw [<- q1] at cD
 rw [<- q2] at hm2
 clear q1 q2 eA g1 g2 g3 g4 d1 d2 t1 t2 t3 t4 e1 e2 e3 e4 hG hD hO hU hH ha hb bR dZ e8 bE
 unfold Jh at cI cJ bS bT bU bF bG cD cK cL dD cM cN hm2 cE
 unfold Jx at bS bT bU bF bG cD cM cN cO cE
 unfold qV at bB aW cI cJ cE ⊢
 rw [Int.natAbs_natCast] at bS bT bU bG
 rw [Int.natAbs_natCast, Int.natAbs_natCast] at bF
 generalize b.den / H = d2 at *
 generalize a.num * (O : Int) = p1 at *
 generalize b.num * (D : Int) = p2 at *
 generalize a + b = q at *
 generalize decide (a.den = 1) = wa at *
 generalize decide (b.den = 1) = wb at *
 generalize decide (a.num < 0) = na at *
 generalize decide (b.num < 0) = nb at *
 generalize decide (q.num < 0) = nq at *
 generalize decide (p1 < 0) = np1 at *
 generalize decide (p2 < 0) = np2 at *
 generalize decide (U < 0) = nu at *
 generalize decide ((a.den : Int) < 0) = nda at *
 generalize decide ((b.den : Int) < 0) = ndb at *
 generalize decide ((G : Int) < 0) = ndg at *
 generalize qden a = ea at *
 generalize qden b = eb at *
 generalize qden q = eq at *
 generalize a.num.natAbs = A at *
 generalize b.num.natAbs = B at *
 generalize q.num.natAbs = Q at *
 generalize p1.natAbs = P1 at *
 generalize p2.natAbs = P2 at *
 generalize U.natAbs = V at *
 generalize a.den = da at *
 generalize b.den = db at *
 generalize q.den = dq at *
 have HWA := lh bB
 have HWB := lh aW
 have HDA := lh cI
 have HDB := lh cJ
 have HFA := lh bS
 have HFB := lh bT
 have HFG := lh bU
 have HGG := lh bF
 have HGH := lh bG
 have HPA := lh cD
 have HOA := lh cK
 have HOB := lh cL
 have HOH := lh dD
 have HTA := lh cM
 have HTB := lh cN
 have HUP := lh cO
 have HM2 := lh hm2
 have HPK := lh cE
 clear bB aW cI cJ bS bT bU bF bG cD cK cL dD cM cN cO hm2 cE
 obtain ⟨b0, b1, b2, hB, hZ⟩ := bx3 w 65 #[.bool na, .int .u64 (lo A : Int), .string (mo A), .int .u64 (lo ea : Int), .string (mo ea)] 65 #[.bool nb, .int .u64 (lo B : Int), .string (mo B), .int .u64 (lo eb : Int), .string (mo eb)] 65 #[.bool false, .int .u64 0, .string ⟨#[]⟩, .int .u64 0, .string ⟨#[]⟩]
 have tT := hT.next hB
 go_enter Tryz.func53, Tryz.ntmps53
 go_upto_region 1 with fail
 generalize (((w.alloc (.cells #[.bool na, .int .u64 (lo A : Int), .string (mo A), .int .u64 (lo ea : Int), .string (mo ea)] 65)).alloc (.cells #[.bool nb, .int .u64 (lo B : Int), .string (mo B), .int .u64 (lo eb : Int), .string (mo eb)] 65)).alloc (.cells #[.bool false, .int .u64 0, .string ⟨#[]⟩, .int .u64 0, .string ⟨#[]⟩] 65)) = W at *
 have fF : W.heap.size = w.heap.size + 1 + 1 + 1 := hZ.out
 go_cut [15] (fun v wc => v = .bool false /\ Below W.heap.size W wc)
 case first =>
  obtain ⟨aI, aJ, aK, aL, aM⟩ := b0.c5; obtain ⟨aD, aE, aF, aG, aH⟩ := b1.c5
  go_wp2_with fail
  refine (HWA.out _).mono ?_
  rintro e w1 ⟨rfl, e8⟩
  (try clear aI aJ aK aL aM); obtain ⟨b0, aI, aJ, aK, aL, aM⟩ := b0.zc5 e8; (try clear aD aE aF aG aH); obtain ⟨b1, aD, aE, aF, aG, aH⟩ := b1.zc5 e8
  cases wa with
  | true =>
   have aW : wb = false := by simpa using hw
   subst aW
   go_wp2_with fail
   refine (HWB.out _).mono ?_
   rintro e w2 ⟨rfl, bE⟩
   go_wp2
   go_meet
   exact ⟨rfl, Ja e8 bE⟩
  | false =>
   go_wp2
   go_meet
   exact ⟨rfl, e8⟩
 case rest =>
  obtain ⟨rfl, bH⟩ := hcut
  rename World => wc
  clear HWA HWB hw
  have b0 := b0.below bH b0.lt
  have b1 := b1.below bH b1.lt
  have b2 := b2.below bH b2.lt
  have tT := tT.next bH
  go_upto_region 3 with fail
  go_cut [5] (fun v wd => Vr wc 61 #[.int .u64 (lo G : Int), .string (mo G)] v wd)
  case first =>
   obtain ⟨aI, aJ, aK, aL, aM⟩ := b0.c5; have aQ := b0.lt; have c0 := b0.drew; have x9 := c0.lt; obtain ⟨aD, aE, aF, aG, aH⟩ := b1.c5; have aN := b1.lt; have c1 := b1.drew; have q8 := c1.lt; have hc := Ji wc; have tT : Tab wc.drew := tT; go_region_held3 (fun w' => w'.cell? ⟨w.heap.size, 0, none⟩ = some (.bool na) /\ w'.cell? ⟨w.heap.size, 1, none⟩ = some (.int .u64 (lo A : Int)) /\ w'.cell? ⟨w.heap.size, 2, none⟩ = some (.string (mo A)) /\ w'.cell? ⟨w.heap.size, 3, none⟩ = some (.int .u64 (lo ea : Int)) /\ w'.cell? ⟨w.heap.size, 4, none⟩ = some (.string (mo ea)) /\ w'.cell? ⟨w.heap.size + 1, 0, none⟩ = some (.bool nb) /\ w'.cell? ⟨w.heap.size + 1, 1, none⟩ = some (.int .u64 (lo B : Int)) /\ w'.cell? ⟨w.heap.size + 1, 2, none⟩ = some (.string (mo B)) /\ w'.cell? ⟨w.heap.size + 1, 3, none⟩ = some (.int .u64 (lo eb : Int)) /\ w'.cell? ⟨w.heap.size + 1, 4, none⟩ = some (.string (mo eb))) (go_keep) (first | (go_at_call 75; refine (HDA.out _).mono ?_; rintro e w1 ⟨rfl, o0⟩; (try clear o6 o7 o8 o9 p7); obtain ⟨c0, o6, o7, o8, o9, p7⟩ := c0.zc5 o0; (try clear x9); have x9 := c0.lt; (try clear j0 j6 j7 j8 j9); obtain ⟨c1, j0, j6, j7, j8, j9⟩ := c1.zc5 o0; (try clear q8); have q8 := c1.lt; (try have ca := ca.yy o0); (first | have tT := tT.next o0 | have tT := (tT.next (Jb _ _)).next o0 | have tT := (tT.next (Jj _ _ _)).next o0); (first | have hc := Ja hc o0 | (have e8 := Qy hc o0; obtain ⟨ca, e9, hc⟩ := e8) | (have e8 := Xg hc o0; obtain ⟨ca, e9, hc⟩ := e8)); (try have y8 := Jv aQ e9); (try have y9 := Jv aN e9)) | (go_at_call 67; refine (HFA.out _).mono ?_; rintro e w2 ⟨rfl, p8⟩; (try clear o6 o7 o8 o9 p7); obtain ⟨c0, o6, o7, o8, o9, p7⟩ := c0.zc5 p8; (try clear x9); have x9 := c0.lt; (try clear j0 j6 j7 j8 j9); obtain ⟨c1, j0, j6, j7, j8, j9⟩ := c1.zc5 p8; (try clear q8); have q8 := c1.lt; (try have ca := ca.yy p8); (first | have tT := tT.next p8 | have tT := (tT.next (Jb _ _)).next p8 | have tT := (tT.next (Jj _ _ _)).next p8); (first | have hc := Ja hc p8 | (have e8 := Qy hc p8; obtain ⟨ca, e9, hc⟩ := e8) | (have e8 := Xg hc p8; obtain ⟨ca, e9, hc⟩ := e8)); (try have y8 := Jv aQ e9); (try have y9 := Jv aN e9)) | (go_at_call 75; refine (HDB.out _).mono ?_; rintro e w3 ⟨rfl, p9⟩; (try clear o6 o7 o8 o9 p7); obtain ⟨c0, o6, o7, o8, o9, p7⟩ := c0.zc5 p9; (try clear x9); have x9 := c0.lt; (try clear j0 j6 j7 j8 j9); obtain ⟨c1, j0, j6, j7, j8, j9⟩ := c1.zc5 p9; (try clear q8); have q8 := c1.lt; (try have ca := ca.yy p9); (first | have tT := tT.next p9 | have tT := (tT.next (Jb _ _)).next p9 | have tT := (tT.next (Jj _ _ _)).next p9); (first | have hc := Ja hc p9 | (have e8 := Qy hc p9; obtain ⟨ca, e9, hc⟩ := e8) | (have e8 := Xg hc p9; obtain ⟨ca, e9, hc⟩ := e8)); (try have y8 := Jv aQ e9); (try have y9 := Jv aN e9)) | (go_at_call 67; refine (HFB.out _).mono ?_; rintro e w4 ⟨rfl, t8⟩; (try clear o6 o7 o8 o9 p7); obtain ⟨c0, o6, o7, o8, o9, p7⟩ := c0.zc5 t8; (try clear x9); have x9 := c0.lt; (try clear j0 j6 j7 j8 j9); obtain ⟨c1, j0, j6, j7, j8, j9⟩ := c1.zc5 t8; (try clear q8); have q8 := c1.lt; (try have ca := ca.yy t8); (first | have tT := tT.next t8 | have tT := (tT.next (Jb _ _)).next t8 | have tT := (tT.next (Jj _ _ _)).next t8); (first | have hc := Ja hc t8 | (have e8 := Qy hc t8; obtain ⟨ca, e9, hc⟩ := e8) | (have e8 := Xg hc t8; obtain ⟨ca, e9, hc⟩ := e8)); (try have y8 := Jv aQ e9); (try have y9 := Jv aN e9)) | (go_at_call 74; (first | refine (HGG.out _ tT).mono ?_ | refine (HGG.out _ (tT.next (Jb _ _))).mono ?_ | refine (HGG.out _ (tT.next (Jj _ _ _))).mono ?_); rintro e w5 ⟨rfl, aU⟩; (try clear o6 o7 o8 o9 p7); obtain ⟨c0, o6, o7, o8, o9, p7⟩ := c0.zc5 aU; (try clear x9); have x9 := c0.lt; (try clear j0 j6 j7 j8 j9); obtain ⟨c1, j0, j6, j7, j8, j9⟩ := c1.zc5 aU; (try clear q8); have q8 := c1.lt; (try have ca := ca.yy aU); (first | have hc := Ja hc aU | (have e8 := Qy hc aU; obtain ⟨ca, e9, hc⟩ := e8) | (have e8 := Xg hc aU; obtain ⟨ca, e9, hc⟩ := e8)); (try have y8 := Jv aQ e9); (try have y9 := Jv aN e9); (try (have dE := ca.lt; obtain ⟨bI, bJ, bK, bL, bM, bN⟩ := ca.f2))))
   all_goals
    go_wp2
    go_meet
    (first | exact Jeu hc ca e9 | exact Jeu (Ja hc (Jb _ _)) (Blk.new _ _ _) hc.size | exact ⟨_, rfl, hc.size, Blk.new _ _ _, Ja hc (Jb _ _)⟩)
  case rest =>
   obtain ⟨g5, rfl, hg, b5, bV⟩ := hcut
   rename World => wd
   have b0 := b0.below bV b0.lt
   have b1 := b1.below bV b1.lt
   have b2 := b2.below bV b2.lt
   have tT := tT.next bV
   have fG := nt bH.size hg
   have dF := Ja bH bV
   clear bH bV hg HFA HFB HGG
   go_upto_region 4 with fail
   go_cut [6, 7] (fun v v' we => Born2 wd 61 #[.int .u64 (lo D : Int), .string (mo D)] 61 #[.int .u64 (lo O : Int), .string (mo O)] v v' we)
   case first =>
    obtain ⟨aI, aJ, aK, aL, aM⟩ := b0.c5; have aQ := b0.lt; have c0 := b0.drew; have x9 := c0.lt; obtain ⟨aD, aE, aF, aG, aH⟩ := b1.c5; have aN := b1.lt; have c1 := b1.drew; have q8 := c1.lt; obtain ⟨dG, dH⟩ := b5.c2; have aX := b5.lt; have c5 := b5.drew; have aV := c5.lt; have hc := Ji wd; go_region_held3 (fun w' => w'.cell? ⟨w.heap.size, 0, none⟩ = some (.bool na) /\ w'.cell? ⟨w.heap.size, 1, none⟩ = some (.int .u64 (lo A : Int)) /\ w'.cell? ⟨w.heap.size, 2, none⟩ = some (.string (mo A)) /\ w'.cell? ⟨w.heap.size, 3, none⟩ = some (.int .u64 (lo ea : Int)) /\ w'.cell? ⟨w.heap.size, 4, none⟩ = some (.string (mo ea)) /\ w'.cell? ⟨w.heap.size + 1, 0, none⟩ = some (.bool nb) /\ w'.cell? ⟨w.heap.size + 1, 1, none⟩ = some (.int .u64 (lo B : Int)) /\ w'.cell? ⟨w.heap.size + 1, 2, none⟩ = some (.string (mo B)) /\ w'.cell? ⟨w.heap.size + 1, 3, none⟩ = some (.int .u64 (lo eb : Int)) /\ w'.cell? ⟨w.heap.size + 1, 4, none⟩ = some (.string (mo eb)) /\ w'.cell? ⟨g5, 0, none⟩ = some (.int .u64 (lo G : Int)) /\ w'.cell? ⟨g5, 1, none⟩ = some (.string (mo G))) (go_keep) (first | (go_at_call 75; refine (HDA.out _).mono ?_; rintro e w1 ⟨rfl, o0⟩; (try clear o6 o7 o8 o9 p7); obtain ⟨c0, o6, o7, o8, o9, p7⟩ := c0.zc5 o0; (try clear x9); have x9 := c0.lt; (try clear j0 j6 j7 j8 j9); obtain ⟨c1, j0, j6, j7, j8, j9⟩ := c1.zc5 o0; (try clear q8); have q8 := c1.lt; (try clear aA aB); obtain ⟨c5, aA, aB⟩ := c5.zc2 o0; (try clear aV); have aV := c5.lt; (try have bO := ca.lt); (try have ca := ca.yy o0); (try (first | have cd := cd.below o0 cd.lt | have cd := (cd.alloc _).below o0 (cd.alloc _).lt)); (first | have hc := Ja hc o0 | (have aS := bO; have e8 := Xg hc o0; obtain ⟨cd, aC, hc⟩ := e8) | (have e8 := Qy hc o0; obtain ⟨ca, e9, hc⟩ := e8) | (have e8 := Xg hc o0; obtain ⟨ca, e9, hc⟩ := e8) | (have e8 := Jg2 hc o0; obtain ⟨ca, e9, cd, aC, aS, hc⟩ := e8) | (have e8 := Jik hc o0; obtain ⟨ca, e9, cd, aC, aS, hc⟩ := e8)); (try have y8 := Jv aQ e9); (try have c0nc := Jv aQ aC); (try have y9 := Jv aN e9); (try have c1nc := Jv aN aC); (try have aY := Jv aX e9); (try have c5nc := Jv aX aC); (try have dI := Jv aS zd)) | (go_at_call 78; refine (HOA.out _).mono ?_; rintro e w2 ⟨rfl, p8⟩; (try clear o6 o7 o8 o9 p7); obtain ⟨c0, o6, o7, o8, o9, p7⟩ := c0.zc5 p8; (try clear x9); have x9 := c0.lt; (try clear j0 j6 j7 j8 j9); obtain ⟨c1, j0, j6, j7, j8, j9⟩ := c1.zc5 p8; (try clear q8); have q8 := c1.lt; (try clear aA aB); obtain ⟨c5, aA, aB⟩ := c5.zc2 p8; (try clear aV); have aV := c5.lt; (try have bO := ca.lt); (try have ca := ca.yy p8); (try (first | have cd := cd.below p8 cd.lt | have cd := (cd.alloc _).below p8 (cd.alloc _).lt)); (first | have hc := Ja hc p8 | (have aS := bO; have e8 := Xg hc p8; obtain ⟨cd, aC, hc⟩ := e8) | (have e8 := Qy hc p8; obtain ⟨ca, e9, hc⟩ := e8) | (have e8 := Xg hc p8; obtain ⟨ca, e9, hc⟩ := e8) | (have e8 := Jg2 hc p8; obtain ⟨ca, e9, cd, aC, aS, hc⟩ := e8) | (have e8 := Jik hc p8; obtain ⟨ca, e9, cd, aC, aS, hc⟩ := e8)); (try have y8 := Jv aQ e9); (try have c0nc := Jv aQ aC); (try have y9 := Jv aN e9); (try have c1nc := Jv aN aC); (try have aY := Jv aX e9); (try have c5nc := Jv aX aC); (try have dI := Jv aS zd)) | (go_at_call 75; refine (HDB.out _).mono ?_; rintro e w3 ⟨rfl, p9⟩; (try clear o6 o7 o8 o9 p7); obtain ⟨c0, o6, o7, o8, o9, p7⟩ := c0.zc5 p9; (try clear x9); have x9 := c0.lt; (try clear j0 j6 j7 j8 j9); obtain ⟨c1, j0, j6, j7, j8, j9⟩ := c1.zc5 p9; (try clear q8); have q8 := c1.lt; (try clear aA aB); obtain ⟨c5, aA, aB⟩ := c5.zc2 p9; (try clear aV); have aV := c5.lt; (try have bO := ca.lt); (try have ca := ca.yy p9); (try (first | have cd := cd.below p9 cd.lt | have cd := (cd.alloc _).below p9 (cd.alloc _).lt)); (first | have hc := Ja hc p9 | (have aS := bO; have e8 := Xg hc p9; obtain ⟨cd, aC, hc⟩ := e8) | (have e8 := Qy hc p9; obtain ⟨ca, e9, hc⟩ := e8) | (have e8 := Xg hc p9; obtain ⟨ca, e9, hc⟩ := e8) | (have e8 := Jg2 hc p9; obtain ⟨ca, e9, cd, aC, aS, hc⟩ := e8) | (have e8 := Jik hc p9; obtain ⟨ca, e9, cd, aC, aS, hc⟩ := e8)); (try have y8 := Jv aQ e9); (try have c0nc := Jv aQ aC); (try have y9 := Jv aN e9); (try have c1nc := Jv aN aC); (try have aY := Jv aX e9); (try have c5nc := Jv aX aC); (try have dI := Jv aS zd)) | (go_at_call 78; refine (HOB.out _).mono ?_; rintro e w4 ⟨rfl, t8⟩; (try clear o6 o7 o8 o9 p7); obtain ⟨c0, o6, o7, o8, o9, p7⟩ := c0.zc5 t8; (try clear x9); have x9 := c0.lt; (try clear j0 j6 j7 j8 j9); obtain ⟨c1, j0, j6, j7, j8, j9⟩ := c1.zc5 t8; (try clear q8); have q8 := c1.lt; (try clear aA aB); obtain ⟨c5, aA, aB⟩ := c5.zc2 t8; (try clear aV); have aV := c5.lt; (try have bO := ca.lt); (try have ca := ca.yy t8); (try (first | have cd := cd.below t8 cd.lt | have cd := (cd.alloc _).below t8 (cd.alloc _).lt)); (first | have hc := Ja hc t8 | (have aS := bO; have e8 := Xg hc t8; obtain ⟨cd, aC, hc⟩ := e8) | (have e8 := Qy hc t8; obtain ⟨ca, e9, hc⟩ := e8) | (have e8 := Xg hc t8; obtain ⟨ca, e9, hc⟩ := e8) | (have e8 := Jg2 hc t8; obtain ⟨ca, e9, cd, aC, aS, hc⟩ := e8) | (have e8 := Jik hc t8; obtain ⟨ca, e9, cd, aC, aS, hc⟩ := e8)); (try have y8 := Jv aQ e9); (try have c0nc := Jv aQ aC); (try have y9 := Jv aN e9); (try have c1nc := Jv aN aC); (try have aY := Jv aX e9); (try have c5nc := Jv aX aC); (try have dI := Jv aS zd); (try (have dE := ca.lt; obtain ⟨bI, bJ, bK, bL, bM, bN⟩ := ca.f2)); (try (have fH := cd.lt; obtain ⟨eE, eF, eG, eH, eI, eJ⟩ := cd.f2))))
    all_goals
     go_wp2
     go_meet
     (have fI := hc.size; first | with_reducible exact Joy hc | with_reducible exact Jox hc | with_reducible exact Jow hc ca e9 | with_reducible exact Jov hc ca e9 | (with_reducible refine Jnw hc ca cd ?_ ?_ ?_) <;> omega | (with_reducible refine Jnw hc cd ca ?_ ?_ ?_) <;> omega)
   case rest =>
    obtain ⟨g6, g7, rfl, rfl, h67, h6, h7, b6, b7, bP⟩ := hcut
    rename World => we
    have b0 := b0.below bP b0.lt
    have b1 := b1.below bP b1.lt
    have b2 := b2.below bP b2.lt
    have b5 := b5.below bP b5.lt
    have tT := tT.next bP
    have eK := nt dF.size h6
    have dJ := Ja dF bP
    clear dF bP h6 h7 HDA HOA HOB h67
    go_upto_region 5 with fail
    go_cut [8] (fun v wf => Vr we 63 #[.bool nu, .int .u64 (lo V : Int), .string (mo V)] v wf)
    case first =>
     obtain ⟨aI, aJ, aK, aL, aM⟩ := b0.c5; have aQ := b0.lt; have c0 := b0.drew; have x9 := c0.lt; obtain ⟨aD, aE, aF, aG, aH⟩ := b1.c5; have aN := b1.lt; have c1 := b1.drew; have q8 := c1.lt; obtain ⟨dK, dL⟩ := b6.c2; have cP := b6.lt; have c6 := b6.drew; have aR := c6.lt; obtain ⟨eL, eM⟩ := b7.c2; have dM := b7.lt; have c7 := b7.drew; have bW := c7.lt; have hc := Ji we; go_region_held3 (fun w' => w'.cell? ⟨w.heap.size, 0, none⟩ = some (.bool na) /\ w'.cell? ⟨w.heap.size, 1, none⟩ = some (.int .u64 (lo A : Int)) /\ w'.cell? ⟨w.heap.size, 2, none⟩ = some (.string (mo A)) /\ w'.cell? ⟨w.heap.size, 3, none⟩ = some (.int .u64 (lo ea : Int)) /\ w'.cell? ⟨w.heap.size, 4, none⟩ = some (.string (mo ea)) /\ w'.cell? ⟨w.heap.size + 1, 0, none⟩ = some (.bool nb) /\ w'.cell? ⟨w.heap.size + 1, 1, none⟩ = some (.int .u64 (lo B : Int)) /\ w'.cell? ⟨w.heap.size + 1, 2, none⟩ = some (.string (mo B)) /\ w'.cell? ⟨w.heap.size + 1, 3, none⟩ = some (.int .u64 (lo eb : Int)) /\ w'.cell? ⟨w.heap.size + 1, 4, none⟩ = some (.string (mo eb)) /\ w'.cell? ⟨g6, 0, none⟩ = some (.int .u64 (lo D : Int)) /\ w'.cell? ⟨g6, 1, none⟩ = some (.string (mo D)) /\ w'.cell? ⟨g7, 0, none⟩ = some (.int .u64 (lo O : Int)) /\ w'.cell? ⟨g7, 1, none⟩ = some (.string (mo O))) (go_keep) (first | (go_at_call 81; refine (HTA.out _).mono ?_; rintro e w1 ⟨rfl, o0⟩; (try clear o6 o7 o8 o9 p7); obtain ⟨c0, o6, o7, o8, o9, p7⟩ := c0.zc5 o0; (try clear x9); have x9 := c0.lt; (try clear j0 j6 j7 j8 j9); obtain ⟨c1, j0, j6, j7, j8, j9⟩ := c1.zc5 o0; (try clear q8); have q8 := c1.lt; (try clear s9 t7); obtain ⟨c6, s9, t7⟩ := c6.zc2 o0; (try clear aR); have aR := c6.lt; (try clear aZ bA); obtain ⟨c7, aZ, bA⟩ := c7.zc2 o0; (try clear bW); have bW := c7.lt; (try have ca := ca.yy o0); (first | have hc := Ja hc o0 | (have e8 := Qy hc o0; obtain ⟨ca, e9, hc⟩ := e8) | (have e8 := Xg hc o0; obtain ⟨ca, e9, hc⟩ := e8)); (try have y8 := Jv aQ e9); (try have y9 := Jv aN e9); (try have cF := Jv cP e9); (try have cG := Jv dM e9)) | (go_at_call 81; refine (HTB.out _).mono ?_; rintro e w2 ⟨rfl, p8⟩; (try clear o6 o7 o8 o9 p7); obtain ⟨c0, o6, o7, o8, o9, p7⟩ := c0.zc5 p8; (try clear x9); have x9 := c0.lt; (try clear j0 j6 j7 j8 j9); obtain ⟨c1, j0, j6, j7, j8, j9⟩ := c1.zc5 p8; (try clear q8); have q8 := c1.lt; (try clear s9 t7); obtain ⟨c6, s9, t7⟩ := c6.zc2 p8; (try clear aR); have aR := c6.lt; (try clear aZ bA); obtain ⟨c7, aZ, bA⟩ := c7.zc2 p8; (try clear bW); have bW := c7.lt; (try have ca := ca.yy p8); (first | have hc := Ja hc p8 | (have e8 := Qy hc p8; obtain ⟨ca, e9, hc⟩ := e8) | (have e8 := Xg hc p8; obtain ⟨ca, e9, hc⟩ := e8)); (try have y8 := Jv aQ e9); (try have y9 := Jv aN e9); (try have cF := Jv cP e9); (try have cG := Jv dM e9)) | (go_at_call 99; refine (HUP.out _).mono ?_; rintro e w3 ⟨rfl, p9⟩; (try clear o6 o7 o8 o9 p7); obtain ⟨c0, o6, o7, o8, o9, p7⟩ := c0.zc5 p9; (try clear x9); have x9 := c0.lt; (try clear j0 j6 j7 j8 j9); obtain ⟨c1, j0, j6, j7, j8, j9⟩ := c1.zc5 p9; (try clear q8); have q8 := c1.lt; (try clear s9 t7); obtain ⟨c6, s9, t7⟩ := c6.zc2 p9; (try clear aR); have aR := c6.lt; (try clear aZ bA); obtain ⟨c7, aZ, bA⟩ := c7.zc2 p9; (try clear bW); have bW := c7.lt; (try have ca := ca.yy p9); (first | have hc := Ja hc p9 | (have e8 := Qy hc p9; obtain ⟨ca, e9, hc⟩ := e8) | (have e8 := Xg hc p9; obtain ⟨ca, e9, hc⟩ := e8)); (try have y8 := Jv aQ e9); (try have y9 := Jv aN e9); (try have cF := Jv cP e9); (try have cG := Jv dM e9); (try (have dE := ca.lt; obtain ⟨bI, bJ, eN, bK, bL, eO, bM, bN, eP⟩ := ca.f3))))
     all_goals
      go_wp2
      go_meet
      (first | exact Jo2 hc ca e9 | exact Jo2 (Ja hc (Jb _ _)) (Blk.new _ _ _) hc.size | exact ⟨_, rfl, hc.size, Blk.new _ _ _, Ja hc (Jb _ _)⟩)
    case rest =>
     obtain ⟨g8, rfl, hg, b8, bQ⟩ := hcut
     rename World => wf
     have b1 := b1.below bQ b1.lt
     have b2 := b2.below bQ b2.lt
     have b5 := b5.below bQ b5.lt
     have b6 := b6.below bQ b6.lt
     have tT := tT.next bQ
     have eQ := nt dJ.size hg
     have dN := Ja dJ bQ
     clear dJ bQ hg HTA HTB HUP b0 b7
     go_upto_region 6 with fail
     go_cut [9] (fun v wh => Vr wf 61 #[.int .u64 (lo H : Int), .string (mo H)] v wh)
     case first =>
      obtain ⟨dO, dP, dQ⟩ := b8.c3; have dR := b8.lt; have c8 := b8.drew; have aT := c8.lt; obtain ⟨dG, dH⟩ := b5.c2; have aX := b5.lt; have c5 := b5.drew; have aV := c5.lt; have hc := Ji wf; have tT : Tab wf.drew := tT; go_region_held3 (fun w' => w'.cell? ⟨g8, 0, none⟩ = some (.bool nu) /\ w'.cell? ⟨g8, 1, none⟩ = some (.int .u64 (lo V : Int)) /\ w'.cell? ⟨g8, 2, none⟩ = some (.string (mo V)) /\ w'.cell? ⟨g5, 0, none⟩ = some (.int .u64 (lo G : Int)) /\ w'.cell? ⟨g5, 1, none⟩ = some (.string (mo G))) (go_keep) (first | (go_at_call 67; refine (HFG.out _).mono ?_; rintro e w1 ⟨rfl, o0⟩; (try clear u4 x7 x8); obtain ⟨c8, u4, x7, x8⟩ := c8.zc3 o0; (try clear aT); have aT := c8.lt; (try clear aA aB); obtain ⟨c5, aA, aB⟩ := c5.zc2 o0; (try clear aV); have aV := c5.lt; (try have ca := ca.yy o0); (first | have tT := tT.next o0 | have tT := (tT.next (Jb _ _)).next o0 | have tT := (tT.next (Jj _ _ _)).next o0); (first | have hc := Ja hc o0 | (have e8 := Qy hc o0; obtain ⟨ca, e9, hc⟩ := e8) | (have e8 := Xg hc o0; obtain ⟨ca, e9, hc⟩ := e8)); (try have dS := Jv dR e9); (try have aY := Jv aX e9)) | (go_at_call 74; (first | refine (HGH.out _ tT).mono ?_ | refine (HGH.out _ (tT.next (Jb _ _))).mono ?_ | refine (HGH.out _ (tT.next (Jj _ _ _))).mono ?_); rintro e w2 ⟨rfl, p8⟩; (try clear u4 x7 x8); obtain ⟨c8, u4, x7, x8⟩ := c8.zc3 p8; (try clear aT); have aT := c8.lt; (try clear aA aB); obtain ⟨c5, aA, aB⟩ := c5.zc2 p8; (try clear aV); have aV := c5.lt; (try have ca := ca.yy p8); (first | have hc := Ja hc p8 | (have e8 := Qy hc p8; obtain ⟨ca, e9, hc⟩ := e8) | (have e8 := Xg hc p8; obtain ⟨ca, e9, hc⟩ := e8)); (try have dS := Jv dR e9); (try have aY := Jv aX e9); (try (have dE := ca.lt; obtain ⟨bI, bJ, bK, bL, bM, bN⟩ := ca.f2))))
      all_goals
       go_wp2
       go_meet
       (first | exact Jeu hc ca e9 | exact Jeu (Ja hc (Jb _ _)) (Blk.new _ _ _) hc.size | exact ⟨_, rfl, hc.size, Blk.new _ _ _, Ja hc (Jb _ _)⟩)
     case rest =>
      obtain ⟨g9, rfl, hg, b9, bX⟩ := hcut
      rename World => wh
      have b1 := b1.below bX b1.lt
      have b2 := b2.below bX b2.lt
      have b6 := b6.below bX b6.lt
      have b8 := b8.below bX b8.lt
      have eR := nt dN.size hg
      have eS := Ja hB (Ja dN bX)
      clear dN bX hg HFG HGH tT b5
      have n1 := Jv (show w.heap.size + 1 < w.heap.size + 1 + 1 by omega) zd
      have n2 := Jv (show w.heap.size + 1 + 1 < W.heap.size by omega) eK
      have n3 := Jv (show w.heap.size + 1 + 1 < W.heap.size by omega) eQ
      have n4 := Jv (show w.heap.size + 1 + 1 < W.heap.size by omega) eR
      go_upto_region 7 with fail
      obtain ⟨aD, aE, aF, aG, aH⟩ := b1.c5; have aN := b1.lt; have c1 := b1.drew; have q8 := c1.lt; obtain ⟨dK, dL⟩ := b6.c2; have cP := b6.lt; have c6 := b6.drew; have aR := c6.lt; obtain ⟨dO, dP, dQ⟩ := b8.c3; have dR := b8.lt; have c8 := b8.drew; have aT := c8.lt; obtain ⟨eT, eU⟩ := b9.c2; have fJ := b9.lt; have c9 := b9.drew; have bC := c9.lt; have c2 := b2.drew; have bD := c2.lt; have hc := Ji wh; go_region_held3 (fun w' => w'.cell? ⟨w.heap.size + 1, 0, none⟩ = some (.bool nb) /\ w'.cell? ⟨w.heap.size + 1, 1, none⟩ = some (.int .u64 (lo B : Int)) /\ w'.cell? ⟨w.heap.size + 1, 2, none⟩ = some (.string (mo B)) /\ w'.cell? ⟨w.heap.size + 1, 3, none⟩ = some (.int .u64 (lo eb : Int)) /\ w'.cell? ⟨w.heap.size + 1, 4, none⟩ = some (.string (mo eb)) /\ w'.cell? ⟨g6, 0, none⟩ = some (.int .u64 (lo D : Int)) /\ w'.cell? ⟨g6, 1, none⟩ = some (.string (mo D)) /\ w'.cell? ⟨g8, 0, none⟩ = some (.bool nu) /\ w'.cell? ⟨g8, 1, none⟩ = some (.int .u64 (lo V : Int)) /\ w'.cell? ⟨g8, 2, none⟩ = some (.string (mo V)) /\ w'.cell? ⟨g9, 0, none⟩ = some (.int .u64 (lo H : Int)) /\ w'.cell? ⟨g9, 1, none⟩ = some (.string (mo H))) (go_keep) (first | (go_at_call 77; refine (HPA.out _).mono ?_; rintro e w1 ⟨rfl, o0⟩; (try clear j0 j6 j7 j8 j9); obtain ⟨c1, j0, j6, j7, j8, j9⟩ := c1.zc5 o0; (try clear q8); have q8 := c1.lt; (try clear s9 t7); obtain ⟨c6, s9, t7⟩ := c6.zc2 o0; (try clear aR); have aR := c6.lt; (try clear u4 x7 x8); obtain ⟨c8, u4, x7, x8⟩ := c8.zc3 o0; (try clear aT); have aT := c8.lt; (try clear aO aP); obtain ⟨c9, aO, aP⟩ := c9.zc2 o0; (try clear bC); have bC := c9.lt; have c2 := c2.yy o0; (try clear bD); have bD := c2.lt; have hc := Ja hc o0) | (go_at_call 75; refine (HDB.out _).mono ?_; rintro e w2 ⟨rfl, p8⟩; (try clear j0 j6 j7 j8 j9); obtain ⟨c1, j0, j6, j7, j8, j9⟩ := c1.zc5 p8; (try clear q8); have q8 := c1.lt; (try clear s9 t7); obtain ⟨c6, s9, t7⟩ := c6.zc2 p8; (try clear aR); have aR := c6.lt; (try clear u4 x7 x8); obtain ⟨c8, u4, x7, x8⟩ := c8.zc3 p8; (try clear aT); have aT := c8.lt; (try clear aO aP); obtain ⟨c9, aO, aP⟩ := c9.zc2 p8; (try clear bC); have bC := c9.lt; have c2 := c2.yy p8; (try clear bD); have bD := c2.lt; have hc := Ja hc p8) | (go_at_call 78; refine (HOH.out _).mono ?_; rintro e w3 ⟨rfl, p9⟩; (try clear j0 j6 j7 j8 j9); obtain ⟨c1, j0, j6, j7, j8, j9⟩ := c1.zc5 p9; (try clear q8); have q8 := c1.lt; (try clear s9 t7); obtain ⟨c6, s9, t7⟩ := c6.zc2 p9; (try clear aR); have aR := c6.lt; (try clear u4 x7 x8); obtain ⟨c8, u4, x7, x8⟩ := c8.zc3 p9; (try clear aT); have aT := c8.lt; (try clear aO aP); obtain ⟨c9, aO, aP⟩ := c9.zc2 p9; (try clear bC); have bC := c9.lt; have c2 := c2.yy p9; (try clear bD); have bD := c2.lt; have hc := Ja hc p9) | (go_at_call 79; refine (HM2.out _).mono ?_; rintro e w4 ⟨rfl, t8⟩; (try clear j0 j6 j7 j8 j9); obtain ⟨c1, j0, j6, j7, j8, j9⟩ := c1.zc5 t8; (try clear q8); have q8 := c1.lt; (try clear s9 t7); obtain ⟨c6, s9, t7⟩ := c6.zc2 t8; (try clear aR); have aR := c6.lt; (try clear u4 x7 x8); obtain ⟨c8, u4, x7, x8⟩ := c8.zc3 t8; (try clear aT); have aT := c8.lt; (try clear aO aP); obtain ⟨c9, aO, aP⟩ := c9.zc2 t8; (try clear bC); have bC := c9.lt; have c2 := c2.yy t8; (try clear bD); have bD := c2.lt; have hc := Ja hc t8) | (go_at_call 76; refine (HPK.out _).mono ?_; rintro e w5 ⟨rfl, aU⟩; (try clear j0 j6 j7 j8 j9); obtain ⟨c1, j0, j6, j7, j8, j9⟩ := c1.zc5 aU; (try clear q8); have q8 := c1.lt; (try clear s9 t7); obtain ⟨c6, s9, t7⟩ := c6.zc2 aU; (try clear aR); have aR := c6.lt; (try clear u4 x7 x8); obtain ⟨c8, u4, x7, x8⟩ := c8.zc3 aU; (try clear aT); have aT := c8.lt; (try clear aO aP); obtain ⟨c9, aO, aP⟩ := c9.zc2 aU; (try clear bC); have bC := c9.lt; have c2 := c2.yy aU; (try clear bD); have bD := c2.lt; have hc := Ja hc aU; obtain ⟨eV, eW, eX, eY, eZ, fA, fB, fC, fD, fE, dT, dU, dV, dW, dX⟩ := c2.f5))
      all_goals
       go_wp2
       refine bodyPost_ret (v := .agg #[.bool nq, .int .u64 (lo Q : Int), .string (mo Q), .int .u64 (lo eq : Int), .string (mo eq)]) (by simp [results, Tryz.results53, go_sem, dT, dU, dV, dW, dX]) rfl ?_
       exact ⟨rfl, Yt (Ja eS hc) (by omega) _ _ _ _ _⟩
theorem Jbz (a b : Rat) (w : World) (ha : QS 137438953472 a) (hb : QS 137438953472 b) (hT : Tab w) :
  Calls Tryz.prog 53 #[qV a, qV b] w (Ret (qV (a + b)) w) := by
 by_cases h1 : a.den = 1
 ·by_cases h2 : b.den = 1
  ·exact Jk4 a b w ha hb h1 h2
  exact Jfr a b w ha hb (by simp [h2]) hT
 exact Jfr a b w ha hb (by simp [h1]) hT
