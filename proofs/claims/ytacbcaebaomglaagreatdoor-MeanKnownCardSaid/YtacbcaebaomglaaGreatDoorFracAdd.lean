import Derived.Test.YtacbcaebaomglaaGreatDoorFracM
import Derived.Test.YtacbcaebaomglaaGreatDoorWholeAdd
namespace Go.Proofs.YtacbcaebaomglaaGreatDoor
set_option maxRecDepth 100000
set_option maxHeartbeats 8000000
open Go.RowKit
set_option linter.all false
attribute [local irreducible] lo mo Calls
set_option maxRecDepth 100000 in
set_option maxHeartbeats 1000000 in
theorem Jh4 (a b : Rat) (w : World) (ha : QS 137438953472 a) (hb : QS 137438953472 b) (bM : a.den = 1) (e8 : b.den = 1) :
  Calls Tryz.prog 53 #[qV a, qV b] w (Ret (qV (a + b)) w) := by
 have aW := fun w => Qi a w (ha.mono (by omega))
 have aR := fun w => Qi b w (hb.mono (by omega))
 rw [decide_eq_true bM] at aW
 rw [decide_eq_true e8] at aR
 have cC := fun w => Jc0 a.num b.num w (by have := ha.1; omega) (by have := hb.1; omega)
 obtain ⟨q1, q2⟩ := Jcm a b bM e8
 have q3 := (Zc (a + b)).2 q2
 have q4 := (Zc a).2 bM
 have q5 := (Zc b).2 e8
 rw [<- q1] at cC
 unfold qV at aW aR ⊢
 rw [q4] at aW
 rw [q5] at aR
 rw [q3, q4, q5, Ju 0 (by omega), Jo 0 (by omega)]
 rw [Ju 0 (by omega), Jo 0 (by omega)] at aW aR
 unfold Js at cC
 clear q1 q2 q3 q4 q5 ha hb bM e8
 generalize decide (a.num < 0) = na at *
 generalize decide (b.num < 0) = nb at *
 generalize decide ((a + b).num < 0) = nq at *
 generalize (a + b).num.natAbs = Q at *
 generalize a.num.natAbs = A at *
 generalize b.num.natAbs = B at *
 have HWA := lh aW
 have HWB := lh aR
 have HMU := lh cC
 clear aW aR cC
 obtain ⟨b0, b1, b2, hB, hZ⟩ := bx3 w 65 #[.bool na, .int .u64 (lo A : Int), .string (mo A), .int .u64 ((0 : Nat) : Int), .string ⟨#[]⟩] 65 #[.bool nb, .int .u64 (lo B : Int), .string (mo B), .int .u64 ((0 : Nat) : Int), .string ⟨#[]⟩] 65 #[.bool false, .int .u64 0, .string ⟨#[]⟩, .int .u64 0, .string ⟨#[]⟩]
 go_enter Tryz.func53, Tryz.ntmps53
 go_wp2_with fail
 generalize (((w.alloc (.cells #[.bool na, .int .u64 (lo A : Int), .string (mo A), .int .u64 ((0 : Nat) : Int), .string ⟨#[]⟩] 65)).alloc (.cells #[.bool nb, .int .u64 (lo B : Int), .string (mo B), .int .u64 ((0 : Nat) : Int), .string ⟨#[]⟩] 65)).alloc (.cells #[.bool false, .int .u64 0, .string ⟨#[]⟩, .int .u64 0, .string ⟨#[]⟩] 65)) = W at *
 refine (HWA.out _).mono ?_
 rintro e w1 ⟨rfl, e8⟩
 have dW := Ja hB e8
 (try clear aD aE aF aG aH); obtain ⟨b0, aD, aE, aF, aG, aH⟩ := b0.zc5 e8; (try clear y8 y9 aA aB aC); obtain ⟨b1, y8, y9, aA, aB, aC⟩ := b1.zc5 e8
 have b2 := b2.below e8 b2.lt
 go_wp2_with fail
 refine (HWB.out _).mono ?_
 rintro e w2 ⟨rfl, aZ⟩
 have dX := Ja dW aZ
 (try clear aD aE aF aG aH); obtain ⟨b0, aD, aE, aF, aG, aH⟩ := b0.zc5 aZ; (try clear y8 y9 aA aB aC); obtain ⟨b1, y8, y9, aA, aB, aC⟩ := b1.zc5 aZ
 have b2 := b2.below aZ b2.lt
 go_wp2_with fail
 refine (HMU.out _).mono ?_
 rintro e w3 ⟨rfl, dT⟩
 have dY := Ja dX dT
 (try clear cL cM cN cO cP cQ cS cT cU cV bT bU bV bW bX); obtain ⟨b2, cL, cM, cN, cO, cP, cQ, cS, cT, cU, cV, bT, bU, bV, bW, bX⟩ := b2.zf5 dT
 go_wp2
 refine bodyPost_ret (v := .agg #[.bool nq, .int .u64 (lo Q : Int), .string (mo Q), .int .u64 ((0 : Nat) : Int), .string ⟨#[]⟩]) (by simp [results, Tryz.results53, go_sem, bT, bU, bV, bW, bX]) rfl ?_
 exact ⟨rfl, Zf dY (by omega) _ _ _ _ _⟩
set_option maxRecDepth 100000 in
set_option maxHeartbeats 8000000 in
theorem Jdf (a b : Rat) (w : World) (ha : QS 137438953472 a) (hb : QS 137438953472 b) (hw : (decide (a.den = 1) && decide (b.den = 1)) = false) (hT : Tab w) :
  Calls Tryz.prog 53 #[qV a, qV b] w (Ret (qV (a + b)) w) := by
 have bM := ha.1
 have dU := ha.2
 have e8 := hb.1
 have aZ := hb.2
 have aW := fun w => Qi a w (ha.mono (by omega))
 have aR := fun w => Qi b w (hb.mono (by omega))
 have cD := fun w => Zw a w (ha.mono (by omega))
 have cE := fun w => Zw b w (hb.mono (by omega))
 have bN := fun w => Qa false a.den w (by omega)
 have bO := fun w => Qa false b.den w (by omega)
 rw [show signed false a.den = (a.den : Int) from rfl] at bN
 rw [show signed false b.den = (b.den : Int) from rfl] at bO
 have bA := fun w (hT : Tab w) => Ke a.den b.den w (by rw [Int.natAbs_natCast]; omega) (by rw [Int.natAbs_natCast]; omega) hT
 rw [Int.natAbs_natCast, Int.natAbs_natCast] at bA
 obtain ⟨G, hG⟩ : ∃ G, Nat.gcd a.den b.den = G := ⟨_, rfl⟩
 rw [hG] at bA
 have g1 : G ∣ a.den := by rw [<- hG]; exact Nat.gcd_dvd_left ..
 have g2 : G ∣ b.den := by rw [<- hG]; exact Nat.gcd_dvd_right ..
 have g3 : G ≠ 0 := fun h => a.den_nz (Nat.gcd_eq_zero_iff.1 (hG.trans h)).1
 have g4 := nt (Jw (Nat.le_of_dvd a.den_pos g1)) dU
 have bP := fun w => Qa false G w (by omega)
 rw [show signed false G = (G : Int) from rfl] at bP
 obtain ⟨D, hD⟩ : ∃ D, a.den / G = D := ⟨_, rfl⟩
 obtain ⟨O, hO⟩ : ∃ O, b.den / G = O := ⟨_, rfl⟩
 have d1 : Je D <= 137438953472 := by rw [<- hD]; have := Xr a.den G; omega
 have d2 : Je O <= 137438953472 := by rw [<- hO]; have := Xr b.den G; omega
 have cF := fun w => Zo a.den G w (by omega) (by omega) g3
 have cG := fun w => Zo b.den G w (by omega) (by omega) g3
 rw [hD] at cF
 rw [hO] at cG
 have cH := fun w => Kz a.num O w (by omega) (by omega)
 have cI := fun w => Kz b.num D w (by omega) (by omega)
 have t1 := Zp a.num O
 have t2 := Zp b.num D
 rw [Int.natAbs_natCast] at t1 t2
 have cJ := fun w => Jc0 (a.num * O) (b.num * D) w (by omega) (by omega)
 have t3 := Jdr (a.num * O) (b.num * D)
 obtain ⟨U, hU⟩ : ∃ U, a.num * (O : Int) + b.num * (D : Int) = U := ⟨_, rfl⟩
 rw [hU] at cJ t3
 have t4 : Je U.natAbs <= 549755813888 := by omega
 have bB := fun w (hT : Tab w) => Ke U G w t4 (by rw [Int.natAbs_natCast]; omega) hT
 rw [Int.natAbs_natCast] at bB
 obtain ⟨H, hH⟩ : ∃ H, Nat.gcd U.natAbs G = H := ⟨_, rfl⟩
 rw [hH] at bB
 have e1 : H ∣ U.natAbs := by rw [<- hH]; exact Nat.gcd_dvd_left ..
 have e2 : H ∣ G := by rw [<- hH]; exact Nat.gcd_dvd_right ..
 have e3 : H ≠ 0 := fun h => g3 (Nat.gcd_eq_zero_iff.1 (hH.trans h)).2
 have e4 := nt (Jw (Nat.le_of_dvd (by omega) e2)) g4
 obtain ⟨q1, q2⟩ := Jcn a b hG hD hO hU hH
 have dV : QS 1099511627776 (a + b) := (ha.add hb).mono (by omega)
 have bY := fun w => Vf U H w (by omega) (by omega) e3 e1
 have cW := fun w => Zo b.den H w (by omega) (by omega) e3
 have hm2 := fun w => Jd5 D (b.den / H) w (by omega) (by have := Xr b.den H; omega)
 have bZ := fun w => Vg (a + b) w dV
 rw [<- q1] at bY
 rw [<- q2] at hm2
 clear q1 q2 dV g1 g2 g3 g4 d1 d2 t1 t2 t3 t4 e1 e2 e3 e4 hG hD hO hU hH ha hb bM dU e8 aZ
 unfold Jh at cD cE bN bO bP bA bB bY cF cG cW cH cI hm2 bZ
 unfold Js at bN bO bP bA bB bY cH cI cJ bZ
 unfold qV at aW aR cD cE bZ ⊢
 rw [Int.natAbs_natCast] at bN bO bP bB
 rw [Int.natAbs_natCast, Int.natAbs_natCast] at bA
 generalize b.den / H = d2 at *
 generalize a.num * (O : Int) = p1 at *
 generalize b.num * (D : Int) = p2 at *
 generalize a + b = q at *
 generalize decide (a.den = 1) = wa at *
 generalize decide (b.den = 1) = wb at *
 generalize decide (a.num < 0) = na at *
 generalize decide (b.num < 0) = nb at *
 generalize decide (q.num < 0) = nq at *
 generalize decide (p1 < 0) = np1 at *
 generalize decide (p2 < 0) = np2 at *
 generalize decide (U < 0) = nu at *
 generalize decide ((a.den : Int) < 0) = nda at *
 generalize decide ((b.den : Int) < 0) = ndb at *
 generalize decide ((G : Int) < 0) = ndg at *
 generalize qden a = ea at *
 generalize qden b = eb at *
 generalize qden q = eq at *
 generalize a.num.natAbs = A at *
 generalize b.num.natAbs = B at *
 generalize q.num.natAbs = Q at *
 generalize p1.natAbs = P1 at *
 generalize p2.natAbs = P2 at *
 generalize U.natAbs = V at *
 generalize a.den = da at *
 generalize b.den = db at *
 generalize q.den = dq at *
 have HWA := lh aW
 have HWB := lh aR
 have HDA := lh cD
 have HDB := lh cE
 have HFA := lh bN
 have HFB := lh bO
 have HFG := lh bP
 have HGG := lh bA
 have HGH := lh bB
 have HPA := lh bY
 have HOA := lh cF
 have HOB := lh cG
 have HOH := lh cW
 have HTA := lh cH
 have HTB := lh cI
 have HUP := lh cJ
 have HM2 := lh hm2
 have HPK := lh bZ
 clear aW aR cD cE bN bO bP bA bB bY cF cG cW cH cI cJ hm2 bZ
 obtain ⟨b0, b1, b2, hB, hZ⟩ := bx3 w 65 #[.bool na, .int .u64 (lo A : Int), .string (mo A), .int .u64 (lo ea : Int), .string (mo ea)] 65 #[.bool nb, .int .u64 (lo B : Int), .string (mo B), .int .u64 (lo eb : Int), .string (mo eb)] 65 #[.bool false, .int .u64 0, .string ⟨#[]⟩, .int .u64 0, .string ⟨#[]⟩]
 have tT := hT.next hB
 go_enter Tryz.func53, Tryz.ntmps53
 go_upto_region 1 with fail
 generalize (((w.alloc (.cells #[.bool na, .int .u64 (lo A : Int), .string (mo A), .int .u64 (lo ea : Int), .string (mo ea)] 65)).alloc (.cells #[.bool nb, .int .u64 (lo B : Int), .string (mo B), .int .u64 (lo eb : Int), .string (mo eb)] 65)).alloc (.cells #[.bool false, .int .u64 0, .string ⟨#[]⟩, .int .u64 0, .string ⟨#[]⟩] 65)) = W at *
 have fA : W.heap.size = w.heap.size + 1 + 1 + 1 := hZ.out
 go_cut [15] (fun v wc => v = .bool false /\ Below W.heap.size W wc)
 case first =>
  obtain ⟨aD, aE, aF, aG, aH⟩ := b0.c5; obtain ⟨y8, y9, aA, aB, aC⟩ := b1.c5
  go_wp2_with fail
  refine (HWA.out _).mono ?_
  rintro e w1 ⟨rfl, e8⟩
  (try clear aD aE aF aG aH); obtain ⟨b0, aD, aE, aF, aG, aH⟩ := b0.zc5 e8; (try clear y8 y9 aA aB aC); obtain ⟨b1, y8, y9, aA, aB, aC⟩ := b1.zc5 e8
  cases wa with
  | true =>
   have aR : wb = false := by simpa using hw
   subst aR
   go_wp2_with fail
   refine (HWB.out _).mono ?_
   rintro e w2 ⟨rfl, aZ⟩
   go_wp2
   go_meet
   exact ⟨rfl, Ja e8 aZ⟩
  | false =>
   go_wp2
   go_meet
   exact ⟨rfl, e8⟩
 case rest =>
  obtain ⟨rfl, bC⟩ := hcut
  rename World => wc
  clear HWA HWB hw
  have b0 := b0.below bC b0.lt
  have b1 := b1.below bC b1.lt
  have b2 := b2.below bC b2.lt
  have tT := tT.next bC
  go_upto_region 3 with fail
  go_cut [5] (fun v wd => Kr wc 61 #[.int .u64 (lo G : Int), .string (mo G)] v wd)
  case first =>
   obtain ⟨aD, aE, aF, aG, aH⟩ := b0.c5; have aL := b0.lt; have c0 := b0.drew; have t8 := c0.lt; obtain ⟨y8, y9, aA, aB, aC⟩ := b1.c5; have aI := b1.lt; have c1 := b1.drew; have p7 := c1.lt; have hc := Jl wc; have tT : Tab wc.drew := tT; go_region_held3 (fun w' => w'.cell? ⟨w.heap.size, 0, none⟩ = some (.bool na) /\ w'.cell? ⟨w.heap.size, 1, none⟩ = some (.int .u64 (lo A : Int)) /\ w'.cell? ⟨w.heap.size, 2, none⟩ = some (.string (mo A)) /\ w'.cell? ⟨w.heap.size, 3, none⟩ = some (.int .u64 (lo ea : Int)) /\ w'.cell? ⟨w.heap.size, 4, none⟩ = some (.string (mo ea)) /\ w'.cell? ⟨w.heap.size + 1, 0, none⟩ = some (.bool nb) /\ w'.cell? ⟨w.heap.size + 1, 1, none⟩ = some (.int .u64 (lo B : Int)) /\ w'.cell? ⟨w.heap.size + 1, 2, none⟩ = some (.string (mo B)) /\ w'.cell? ⟨w.heap.size + 1, 3, none⟩ = some (.int .u64 (lo eb : Int)) /\ w'.cell? ⟨w.heap.size + 1, 4, none⟩ = some (.string (mo eb))) (go_keep) (first | (go_at_call 75; refine (HDA.out _).mono ?_; rintro e w1 ⟨rfl, l5⟩; (try clear l7 o0 o6 o7 o8); obtain ⟨c0, l7, o0, o6, o7, o8⟩ := c0.zc5 l5; (try clear t8); have t8 := c0.lt; (try clear j0 j6 j7 j8 j9); obtain ⟨c1, j0, j6, j7, j8, j9⟩ := c1.zc5 l5; (try clear p7); have p7 := c1.lt; (try have ca := ca.yy l5); (first | have tT := tT.next l5 | have tT := (tT.next (Jb _ _)).next l5 | have tT := (tT.next (Ji _ _ _)).next l5); (first | have hc := Ja hc l5 | (have e8 := Qp hc l5; obtain ⟨ca, e9, hc⟩ := e8) | (have e8 := Qx hc l5; obtain ⟨ca, e9, hc⟩ := e8)); (try have u4 := Jq aL e9); (try have u5 := Jq aI e9)) | (go_at_call 67; refine (HFA.out _).mono ?_; rintro e w2 ⟨rfl, o9⟩; (try clear l7 o0 o6 o7 o8); obtain ⟨c0, l7, o0, o6, o7, o8⟩ := c0.zc5 o9; (try clear t8); have t8 := c0.lt; (try clear j0 j6 j7 j8 j9); obtain ⟨c1, j0, j6, j7, j8, j9⟩ := c1.zc5 o9; (try clear p7); have p7 := c1.lt; (try have ca := ca.yy o9); (first | have tT := tT.next o9 | have tT := (tT.next (Jb _ _)).next o9 | have tT := (tT.next (Ji _ _ _)).next o9); (first | have hc := Ja hc o9 | (have e8 := Qp hc o9; obtain ⟨ca, e9, hc⟩ := e8) | (have e8 := Qx hc o9; obtain ⟨ca, e9, hc⟩ := e8)); (try have u4 := Jq aL e9); (try have u5 := Jq aI e9)) | (go_at_call 75; refine (HDB.out _).mono ?_; rintro e w3 ⟨rfl, p0⟩; (try clear l7 o0 o6 o7 o8); obtain ⟨c0, l7, o0, o6, o7, o8⟩ := c0.zc5 p0; (try clear t8); have t8 := c0.lt; (try clear j0 j6 j7 j8 j9); obtain ⟨c1, j0, j6, j7, j8, j9⟩ := c1.zc5 p0; (try clear p7); have p7 := c1.lt; (try have ca := ca.yy p0); (first | have tT := tT.next p0 | have tT := (tT.next (Jb _ _)).next p0 | have tT := (tT.next (Ji _ _ _)).next p0); (first | have hc := Ja hc p0 | (have e8 := Qp hc p0; obtain ⟨ca, e9, hc⟩ := e8) | (have e8 := Qx hc p0; obtain ⟨ca, e9, hc⟩ := e8)); (try have u4 := Jq aL e9); (try have u5 := Jq aI e9)) | (go_at_call 67; refine (HFB.out _).mono ?_; rintro e w4 ⟨rfl, q8⟩; (try clear l7 o0 o6 o7 o8); obtain ⟨c0, l7, o0, o6, o7, o8⟩ := c0.zc5 q8; (try clear t8); have t8 := c0.lt; (try clear j0 j6 j7 j8 j9); obtain ⟨c1, j0, j6, j7, j8, j9⟩ := c1.zc5 q8; (try clear p7); have p7 := c1.lt; (try have ca := ca.yy q8); (first | have tT := tT.next q8 | have tT := (tT.next (Jb _ _)).next q8 | have tT := (tT.next (Ji _ _ _)).next q8); (first | have hc := Ja hc q8 | (have e8 := Qp hc q8; obtain ⟨ca, e9, hc⟩ := e8) | (have e8 := Qx hc q8; obtain ⟨ca, e9, hc⟩ := e8)); (try have u4 := Jq aL e9); (try have u5 := Jq aI e9)) | (go_at_call 74; (first | refine (HGG.out _ tT).mono ?_ | refine (HGG.out _ (tT.next (Jb _ _))).mono ?_ | refine (HGG.out _ (tT.next (Ji _ _ _))).mono ?_); rintro e w5 ⟨rfl, aP⟩; (try clear l7 o0 o6 o7 o8); obtain ⟨c0, l7, o0, o6, o7, o8⟩ := c0.zc5 aP; (try clear t8); have t8 := c0.lt; (try clear j0 j6 j7 j8 j9); obtain ⟨c1, j0, j6, j7, j8, j9⟩ := c1.zc5 aP; (try clear p7); have p7 := c1.lt; (try have ca := ca.yy aP); (first | have hc := Ja hc aP | (have e8 := Qp hc aP; obtain ⟨ca, e9, hc⟩ := e8) | (have e8 := Qx hc aP; obtain ⟨ca, e9, hc⟩ := e8)); (try have u4 := Jq aL e9); (try have u5 := Jq aI e9); (try (have cZ := ca.lt; obtain ⟨bD, bE, bF, bG, bH, bI⟩ := ca.f2))))
   all_goals
    go_wp2
    go_meet
    (first | exact Jco hc ca e9 | exact Jco (Ja hc (Jb _ _)) (Blk.new _ _ _) hc.size | exact ⟨_, rfl, hc.size, Blk.new _ _ _, Ja hc (Jb _ _)⟩)
  case rest =>
   obtain ⟨g5, rfl, hg, b5, bQ⟩ := hcut
   rename World => wd
   have b0 := b0.below bQ b0.lt
   have b1 := b1.below bQ b1.lt
   have b2 := b2.below bQ b2.lt
   have tT := tT.next bQ
   have fB := nt bC.size hg
   have dA := Ja bC bQ
   clear bC bQ hg HFA HFB HGG
   go_upto_region 4 with fail
   go_cut [6, 7] (fun v v' we => Born2 wd 61 #[.int .u64 (lo D : Int), .string (mo D)] 61 #[.int .u64 (lo O : Int), .string (mo O)] v v' we)
   case first =>
    obtain ⟨aD, aE, aF, aG, aH⟩ := b0.c5; have aL := b0.lt; have c0 := b0.drew; have t8 := c0.lt; obtain ⟨y8, y9, aA, aB, aC⟩ := b1.c5; have aI := b1.lt; have c1 := b1.drew; have p7 := c1.lt; obtain ⟨dB, dC⟩ := b5.c2; have aS := b5.lt; have c5 := b5.drew; have aQ := c5.lt; have hc := Jl wd; go_region_held3 (fun w' => w'.cell? ⟨w.heap.size, 0, none⟩ = some (.bool na) /\ w'.cell? ⟨w.heap.size, 1, none⟩ = some (.int .u64 (lo A : Int)) /\ w'.cell? ⟨w.heap.size, 2, none⟩ = some (.string (mo A)) /\ w'.cell? ⟨w.heap.size, 3, none⟩ = some (.int .u64 (lo ea : Int)) /\ w'.cell? ⟨w.heap.size, 4, none⟩ = some (.string (mo ea)) /\ w'.cell? ⟨w.heap.size + 1, 0, none⟩ = some (.bool nb) /\ w'.cell? ⟨w.heap.size + 1, 1, none⟩ = some (.int .u64 (lo B : Int)) /\ w'.cell? ⟨w.heap.size + 1, 2, none⟩ = some (.string (mo B)) /\ w'.cell? ⟨w.heap.size + 1, 3, none⟩ = some (.int .u64 (lo eb : Int)) /\ w'.cell? ⟨w.heap.size + 1, 4, none⟩ = some (.string (mo eb)) /\ w'.cell? ⟨g5, 0, none⟩ = some (.int .u64 (lo G : Int)) /\ w'.cell? ⟨g5, 1, none⟩ = some (.string (mo G))) (go_keep) (first | (go_at_call 75; refine (HDA.out _).mono ?_; rintro e w1 ⟨rfl, l5⟩; (try clear l7 o0 o6 o7 o8); obtain ⟨c0, l7, o0, o6, o7, o8⟩ := c0.zc5 l5; (try clear t8); have t8 := c0.lt; (try clear j0 j6 j7 j8 j9); obtain ⟨c1, j0, j6, j7, j8, j9⟩ := c1.zc5 l5; (try clear p7); have p7 := c1.lt; (try clear x7 x8); obtain ⟨c5, x7, x8⟩ := c5.zc2 l5; (try clear aQ); have aQ := c5.lt; (try have bJ := ca.lt); (try have ca := ca.yy l5); (try (first | have cd := cd.below l5 cd.lt | have cd := (cd.alloc _).below l5 (cd.alloc _).lt)); (first | have hc := Ja hc l5 | (have aN := bJ; have e8 := Qx hc l5; obtain ⟨cd, x9, hc⟩ := e8) | (have e8 := Qp hc l5; obtain ⟨ca, e9, hc⟩ := e8) | (have e8 := Qx hc l5; obtain ⟨ca, e9, hc⟩ := e8) | (have e8 := Jen hc l5; obtain ⟨ca, e9, cd, x9, aN, hc⟩ := e8) | (have e8 := Jfs hc l5; obtain ⟨ca, e9, cd, x9, aN, hc⟩ := e8)); (try have u4 := Jq aL e9); (try have c0nc := Jq aL x9); (try have u5 := Jq aI e9); (try have c1nc := Jq aI x9); (try have aT := Jq aS e9); (try have c5nc := Jq aS x9); (try have dD := Jq aN zd)) | (go_at_call 78; refine (HOA.out _).mono ?_; rintro e w2 ⟨rfl, o9⟩; (try clear l7 o0 o6 o7 o8); obtain ⟨c0, l7, o0, o6, o7, o8⟩ := c0.zc5 o9; (try clear t8); have t8 := c0.lt; (try clear j0 j6 j7 j8 j9); obtain ⟨c1, j0, j6, j7, j8, j9⟩ := c1.zc5 o9; (try clear p7); have p7 := c1.lt; (try clear x7 x8); obtain ⟨c5, x7, x8⟩ := c5.zc2 o9; (try clear aQ); have aQ := c5.lt; (try have bJ := ca.lt); (try have ca := ca.yy o9); (try (first | have cd := cd.below o9 cd.lt | have cd := (cd.alloc _).below o9 (cd.alloc _).lt)); (first | have hc := Ja hc o9 | (have aN := bJ; have e8 := Qx hc o9; obtain ⟨cd, x9, hc⟩ := e8) | (have e8 := Qp hc o9; obtain ⟨ca, e9, hc⟩ := e8) | (have e8 := Qx hc o9; obtain ⟨ca, e9, hc⟩ := e8) | (have e8 := Jen hc o9; obtain ⟨ca, e9, cd, x9, aN, hc⟩ := e8) | (have e8 := Jfs hc o9; obtain ⟨ca, e9, cd, x9, aN, hc⟩ := e8)); (try have u4 := Jq aL e9); (try have c0nc := Jq aL x9); (try have u5 := Jq aI e9); (try have c1nc := Jq aI x9); (try have aT := Jq aS e9); (try have c5nc := Jq aS x9); (try have dD := Jq aN zd)) | (go_at_call 75; refine (HDB.out _).mono ?_; rintro e w3 ⟨rfl, p0⟩; (try clear l7 o0 o6 o7 o8); obtain ⟨c0, l7, o0, o6, o7, o8⟩ := c0.zc5 p0; (try clear t8); have t8 := c0.lt; (try clear j0 j6 j7 j8 j9); obtain ⟨c1, j0, j6, j7, j8, j9⟩ := c1.zc5 p0; (try clear p7); have p7 := c1.lt; (try clear x7 x8); obtain ⟨c5, x7, x8⟩ := c5.zc2 p0; (try clear aQ); have aQ := c5.lt; (try have bJ := ca.lt); (try have ca := ca.yy p0); (try (first | have cd := cd.below p0 cd.lt | have cd := (cd.alloc _).below p0 (cd.alloc _).lt)); (first | have hc := Ja hc p0 | (have aN := bJ; have e8 := Qx hc p0; obtain ⟨cd, x9, hc⟩ := e8) | (have e8 := Qp hc p0; obtain ⟨ca, e9, hc⟩ := e8) | (have e8 := Qx hc p0; obtain ⟨ca, e9, hc⟩ := e8) | (have e8 := Jen hc p0; obtain ⟨ca, e9, cd, x9, aN, hc⟩ := e8) | (have e8 := Jfs hc p0; obtain ⟨ca, e9, cd, x9, aN, hc⟩ := e8)); (try have u4 := Jq aL e9); (try have c0nc := Jq aL x9); (try have u5 := Jq aI e9); (try have c1nc := Jq aI x9); (try have aT := Jq aS e9); (try have c5nc := Jq aS x9); (try have dD := Jq aN zd)) | (go_at_call 78; refine (HOB.out _).mono ?_; rintro e w4 ⟨rfl, q8⟩; (try clear l7 o0 o6 o7 o8); obtain ⟨c0, l7, o0, o6, o7, o8⟩ := c0.zc5 q8; (try clear t8); have t8 := c0.lt; (try clear j0 j6 j7 j8 j9); obtain ⟨c1, j0, j6, j7, j8, j9⟩ := c1.zc5 q8; (try clear p7); have p7 := c1.lt; (try clear x7 x8); obtain ⟨c5, x7, x8⟩ := c5.zc2 q8; (try clear aQ); have aQ := c5.lt; (try have bJ := ca.lt); (try have ca := ca.yy q8); (try (first | have cd := cd.below q8 cd.lt | have cd := (cd.alloc _).below q8 (cd.alloc _).lt)); (first | have hc := Ja hc q8 | (have aN := bJ; have e8 := Qx hc q8; obtain ⟨cd, x9, hc⟩ := e8) | (have e8 := Qp hc q8; obtain ⟨ca, e9, hc⟩ := e8) | (have e8 := Qx hc q8; obtain ⟨ca, e9, hc⟩ := e8) | (have e8 := Jen hc q8; obtain ⟨ca, e9, cd, x9, aN, hc⟩ := e8) | (have e8 := Jfs hc q8; obtain ⟨ca, e9, cd, x9, aN, hc⟩ := e8)); (try have u4 := Jq aL e9); (try have c0nc := Jq aL x9); (try have u5 := Jq aI e9); (try have c1nc := Jq aI x9); (try have aT := Jq aS e9); (try have c5nc := Jq aS x9); (try have dD := Jq aN zd); (try (have cZ := ca.lt; obtain ⟨bD, bE, bF, bG, bH, bI⟩ := ca.f2)); (try (have fC := cd.lt; obtain ⟨dZ, eA, eB, eC, eD, eE⟩ := cd.f2))))
    all_goals
     go_wp2
     go_meet
     (have fD := hc.size; first | with_reducible exact Jl2 hc | with_reducible exact Jl1 hc | with_reducible exact Jl0 hc ca e9 | with_reducible exact Jlz hc ca e9 | (with_reducible refine Jkw hc ca cd ?_ ?_ ?_) <;> omega | (with_reducible refine Jkw hc cd ca ?_ ?_ ?_) <;> omega)
   case rest =>
    obtain ⟨g6, g7, rfl, rfl, h67, h6, h7, b6, b7, bK⟩ := hcut
    rename World => we
    have b0 := b0.below bK b0.lt
    have b1 := b1.below bK b1.lt
    have b2 := b2.below bK b2.lt
    have b5 := b5.below bK b5.lt
    have tT := tT.next bK
    have eF := nt dA.size h6
    have dE := Ja dA bK
    clear dA bK h6 h7 HDA HOA HOB h67
    go_upto_region 5 with fail
    go_cut [8] (fun v wf => Kr we 63 #[.bool nu, .int .u64 (lo V : Int), .string (mo V)] v wf)
    case first =>
     obtain ⟨aD, aE, aF, aG, aH⟩ := b0.c5; have aL := b0.lt; have c0 := b0.drew; have t8 := c0.lt; obtain ⟨y8, y9, aA, aB, aC⟩ := b1.c5; have aI := b1.lt; have c1 := b1.drew; have p7 := c1.lt; obtain ⟨dF, dG⟩ := b6.c2; have cK := b6.lt; have c6 := b6.drew; have aM := c6.lt; obtain ⟨eG, eH⟩ := b7.c2; have dH := b7.lt; have c7 := b7.drew; have bR := c7.lt; have hc := Jl we; go_region_held3 (fun w' => w'.cell? ⟨w.heap.size, 0, none⟩ = some (.bool na) /\ w'.cell? ⟨w.heap.size, 1, none⟩ = some (.int .u64 (lo A : Int)) /\ w'.cell? ⟨w.heap.size, 2, none⟩ = some (.string (mo A)) /\ w'.cell? ⟨w.heap.size, 3, none⟩ = some (.int .u64 (lo ea : Int)) /\ w'.cell? ⟨w.heap.size, 4, none⟩ = some (.string (mo ea)) /\ w'.cell? ⟨w.heap.size + 1, 0, none⟩ = some (.bool nb) /\ w'.cell? ⟨w.heap.size + 1, 1, none⟩ = some (.int .u64 (lo B : Int)) /\ w'.cell? ⟨w.heap.size + 1, 2, none⟩ = some (.string (mo B)) /\ w'.cell? ⟨w.heap.size + 1, 3, none⟩ = some (.int .u64 (lo eb : Int)) /\ w'.cell? ⟨w.heap.size + 1, 4, none⟩ = some (.string (mo eb)) /\ w'.cell? ⟨g6, 0, none⟩ = some (.int .u64 (lo D : Int)) /\ w'.cell? ⟨g6, 1, none⟩ = some (.string (mo D)) /\ w'.cell? ⟨g7, 0, none⟩ = some (.int .u64 (lo O : Int)) /\ w'.cell? ⟨g7, 1, none⟩ = some (.string (mo O))) (go_keep) (first | (go_at_call 81; refine (HTA.out _).mono ?_; rintro e w1 ⟨rfl, l5⟩; (try clear l7 o0 o6 o7 o8); obtain ⟨c0, l7, o0, o6, o7, o8⟩ := c0.zc5 l5; (try clear t8); have t8 := c0.lt; (try clear j0 j6 j7 j8 j9); obtain ⟨c1, j0, j6, j7, j8, j9⟩ := c1.zc5 l5; (try clear p7); have p7 := c1.lt; (try clear p8 p9); obtain ⟨c6, p8, p9⟩ := c6.zc2 l5; (try clear aM); have aM := c6.lt; (try clear aU aV); obtain ⟨c7, aU, aV⟩ := c7.zc2 l5; (try clear bR); have bR := c7.lt; (try have ca := ca.yy l5); (first | have hc := Ja hc l5 | (have e8 := Qp hc l5; obtain ⟨ca, e9, hc⟩ := e8) | (have e8 := Qx hc l5; obtain ⟨ca, e9, hc⟩ := e8)); (try have u4 := Jq aL e9); (try have u5 := Jq aI e9); (try have cA := Jq cK e9); (try have cB := Jq dH e9)) | (go_at_call 81; refine (HTB.out _).mono ?_; rintro e w2 ⟨rfl, o9⟩; (try clear l7 o0 o6 o7 o8); obtain ⟨c0, l7, o0, o6, o7, o8⟩ := c0.zc5 o9; (try clear t8); have t8 := c0.lt; (try clear j0 j6 j7 j8 j9); obtain ⟨c1, j0, j6, j7, j8, j9⟩ := c1.zc5 o9; (try clear p7); have p7 := c1.lt; (try clear p8 p9); obtain ⟨c6, p8, p9⟩ := c6.zc2 o9; (try clear aM); have aM := c6.lt; (try clear aU aV); obtain ⟨c7, aU, aV⟩ := c7.zc2 o9; (try clear bR); have bR := c7.lt; (try have ca := ca.yy o9); (first | have hc := Ja hc o9 | (have e8 := Qp hc o9; obtain ⟨ca, e9, hc⟩ := e8) | (have e8 := Qx hc o9; obtain ⟨ca, e9, hc⟩ := e8)); (try have u4 := Jq aL e9); (try have u5 := Jq aI e9); (try have cA := Jq cK e9); (try have cB := Jq dH e9)) | (go_at_call 99; refine (HUP.out _).mono ?_; rintro e w3 ⟨rfl, p0⟩; (try clear l7 o0 o6 o7 o8); obtain ⟨c0, l7, o0, o6, o7, o8⟩ := c0.zc5 p0; (try clear t8); have t8 := c0.lt; (try clear j0 j6 j7 j8 j9); obtain ⟨c1, j0, j6, j7, j8, j9⟩ := c1.zc5 p0; (try clear p7); have p7 := c1.lt; (try clear p8 p9); obtain ⟨c6, p8, p9⟩ := c6.zc2 p0; (try clear aM); have aM := c6.lt; (try clear aU aV); obtain ⟨c7, aU, aV⟩ := c7.zc2 p0; (try clear bR); have bR := c7.lt; (try have ca := ca.yy p0); (first | have hc := Ja hc p0 | (have e8 := Qp hc p0; obtain ⟨ca, e9, hc⟩ := e8) | (have e8 := Qx hc p0; obtain ⟨ca, e9, hc⟩ := e8)); (try have u4 := Jq aL e9); (try have u5 := Jq aI e9); (try have cA := Jq cK e9); (try have cB := Jq dH e9); (try (have cZ := ca.lt; obtain ⟨bD, bE, eI, bF, bG, eJ, bH, bI, eK⟩ := ca.f3))))
     all_goals
      go_wp2
      go_meet
      (first | exact Jl4 hc ca e9 | exact Jl4 (Ja hc (Jb _ _)) (Blk.new _ _ _) hc.size | exact ⟨_, rfl, hc.size, Blk.new _ _ _, Ja hc (Jb _ _)⟩)
    case rest =>
     obtain ⟨g8, rfl, hg, b8, bL⟩ := hcut
     rename World => wf
     have b1 := b1.below bL b1.lt
     have b2 := b2.below bL b2.lt
     have b5 := b5.below bL b5.lt
     have b6 := b6.below bL b6.lt
     have tT := tT.next bL
     have eL := nt dE.size hg
     have dI := Ja dE bL
     clear dE bL hg HTA HTB HUP b0 b7
     go_upto_region 6 with fail
     go_cut [9] (fun v wh => Kr wf 61 #[.int .u64 (lo H : Int), .string (mo H)] v wh)
     case first =>
      obtain ⟨dJ, dK, dL⟩ := b8.c3; have dM := b8.lt; have c8 := b8.drew; have aO := c8.lt; obtain ⟨dB, dC⟩ := b5.c2; have aS := b5.lt; have c5 := b5.drew; have aQ := c5.lt; have hc := Jl wf; have tT : Tab wf.drew := tT; go_region_held3 (fun w' => w'.cell? ⟨g8, 0, none⟩ = some (.bool nu) /\ w'.cell? ⟨g8, 1, none⟩ = some (.int .u64 (lo V : Int)) /\ w'.cell? ⟨g8, 2, none⟩ = some (.string (mo V)) /\ w'.cell? ⟨g5, 0, none⟩ = some (.int .u64 (lo G : Int)) /\ w'.cell? ⟨g5, 1, none⟩ = some (.string (mo G))) (go_keep) (first | (go_at_call 67; refine (HFG.out _).mono ?_; rintro e w1 ⟨rfl, l5⟩; (try clear q9 s9 t7); obtain ⟨c8, q9, s9, t7⟩ := c8.zc3 l5; (try clear aO); have aO := c8.lt; (try clear x7 x8); obtain ⟨c5, x7, x8⟩ := c5.zc2 l5; (try clear aQ); have aQ := c5.lt; (try have ca := ca.yy l5); (first | have tT := tT.next l5 | have tT := (tT.next (Jb _ _)).next l5 | have tT := (tT.next (Ji _ _ _)).next l5); (first | have hc := Ja hc l5 | (have e8 := Qp hc l5; obtain ⟨ca, e9, hc⟩ := e8) | (have e8 := Qx hc l5; obtain ⟨ca, e9, hc⟩ := e8)); (try have dN := Jq dM e9); (try have aT := Jq aS e9)) | (go_at_call 74; (first | refine (HGH.out _ tT).mono ?_ | refine (HGH.out _ (tT.next (Jb _ _))).mono ?_ | refine (HGH.out _ (tT.next (Ji _ _ _))).mono ?_); rintro e w2 ⟨rfl, o9⟩; (try clear q9 s9 t7); obtain ⟨c8, q9, s9, t7⟩ := c8.zc3 o9; (try clear aO); have aO := c8.lt; (try clear x7 x8); obtain ⟨c5, x7, x8⟩ := c5.zc2 o9; (try clear aQ); have aQ := c5.lt; (try have ca := ca.yy o9); (first | have hc := Ja hc o9 | (have e8 := Qp hc o9; obtain ⟨ca, e9, hc⟩ := e8) | (have e8 := Qx hc o9; obtain ⟨ca, e9, hc⟩ := e8)); (try have dN := Jq dM e9); (try have aT := Jq aS e9); (try (have cZ := ca.lt; obtain ⟨bD, bE, bF, bG, bH, bI⟩ := ca.f2))))
      all_goals
       go_wp2
       go_meet
       (first | exact Jco hc ca e9 | exact Jco (Ja hc (Jb _ _)) (Blk.new _ _ _) hc.size | exact ⟨_, rfl, hc.size, Blk.new _ _ _, Ja hc (Jb _ _)⟩)
     case rest =>
      obtain ⟨g9, rfl, hg, b9, bS⟩ := hcut
      rename World => wh
      have b1 := b1.below bS b1.lt
      have b2 := b2.below bS b2.lt
      have b6 := b6.below bS b6.lt
      have b8 := b8.below bS b8.lt
      have eM := nt dI.size hg
      have eN := Ja hB (Ja dI bS)
      clear dI bS hg HFG HGH tT b5
      have n1 := Jq (show w.heap.size + 1 < w.heap.size + 1 + 1 by omega) zd
      have n2 := Jq (show w.heap.size + 1 + 1 < W.heap.size by omega) eF
      have n3 := Jq (show w.heap.size + 1 + 1 < W.heap.size by omega) eL
      have n4 := Jq (show w.heap.size + 1 + 1 < W.heap.size by omega) eM
      go_upto_region 7 with fail
      obtain ⟨y8, y9, aA, aB, aC⟩ := b1.c5; have aI := b1.lt; have c1 := b1.drew; have p7 := c1.lt; obtain ⟨dF, dG⟩ := b6.c2; have cK := b6.lt; have c6 := b6.drew; have aM := c6.lt; obtain ⟨dJ, dK, dL⟩ := b8.c3; have dM := b8.lt; have c8 := b8.drew; have aO := c8.lt; obtain ⟨eO, eP⟩ := b9.c2; have fE := b9.lt; have c9 := b9.drew; have aX := c9.lt; have c2 := b2.drew; have aY := c2.lt; have hc := Jl wh; go_region_held3 (fun w' => w'.cell? ⟨w.heap.size + 1, 0, none⟩ = some (.bool nb) /\ w'.cell? ⟨w.heap.size + 1, 1, none⟩ = some (.int .u64 (lo B : Int)) /\ w'.cell? ⟨w.heap.size + 1, 2, none⟩ = some (.string (mo B)) /\ w'.cell? ⟨w.heap.size + 1, 3, none⟩ = some (.int .u64 (lo eb : Int)) /\ w'.cell? ⟨w.heap.size + 1, 4, none⟩ = some (.string (mo eb)) /\ w'.cell? ⟨g6, 0, none⟩ = some (.int .u64 (lo D : Int)) /\ w'.cell? ⟨g6, 1, none⟩ = some (.string (mo D)) /\ w'.cell? ⟨g8, 0, none⟩ = some (.bool nu) /\ w'.cell? ⟨g8, 1, none⟩ = some (.int .u64 (lo V : Int)) /\ w'.cell? ⟨g8, 2, none⟩ = some (.string (mo V)) /\ w'.cell? ⟨g9, 0, none⟩ = some (.int .u64 (lo H : Int)) /\ w'.cell? ⟨g9, 1, none⟩ = some (.string (mo H))) (go_keep) (first | (go_at_call 77; refine (HPA.out _).mono ?_; rintro e w1 ⟨rfl, l5⟩; (try clear j0 j6 j7 j8 j9); obtain ⟨c1, j0, j6, j7, j8, j9⟩ := c1.zc5 l5; (try clear p7); have p7 := c1.lt; (try clear p8 p9); obtain ⟨c6, p8, p9⟩ := c6.zc2 l5; (try clear aM); have aM := c6.lt; (try clear q9 s9 t7); obtain ⟨c8, q9, s9, t7⟩ := c8.zc3 l5; (try clear aO); have aO := c8.lt; (try clear aJ aK); obtain ⟨c9, aJ, aK⟩ := c9.zc2 l5; (try clear aX); have aX := c9.lt; have c2 := c2.yy l5; (try clear aY); have aY := c2.lt; have hc := Ja hc l5) | (go_at_call 75; refine (HDB.out _).mono ?_; rintro e w2 ⟨rfl, o9⟩; (try clear j0 j6 j7 j8 j9); obtain ⟨c1, j0, j6, j7, j8, j9⟩ := c1.zc5 o9; (try clear p7); have p7 := c1.lt; (try clear p8 p9); obtain ⟨c6, p8, p9⟩ := c6.zc2 o9; (try clear aM); have aM := c6.lt; (try clear q9 s9 t7); obtain ⟨c8, q9, s9, t7⟩ := c8.zc3 o9; (try clear aO); have aO := c8.lt; (try clear aJ aK); obtain ⟨c9, aJ, aK⟩ := c9.zc2 o9; (try clear aX); have aX := c9.lt; have c2 := c2.yy o9; (try clear aY); have aY := c2.lt; have hc := Ja hc o9) | (go_at_call 78; refine (HOH.out _).mono ?_; rintro e w3 ⟨rfl, p0⟩; (try clear j0 j6 j7 j8 j9); obtain ⟨c1, j0, j6, j7, j8, j9⟩ := c1.zc5 p0; (try clear p7); have p7 := c1.lt; (try clear p8 p9); obtain ⟨c6, p8, p9⟩ := c6.zc2 p0; (try clear aM); have aM := c6.lt; (try clear q9 s9 t7); obtain ⟨c8, q9, s9, t7⟩ := c8.zc3 p0; (try clear aO); have aO := c8.lt; (try clear aJ aK); obtain ⟨c9, aJ, aK⟩ := c9.zc2 p0; (try clear aX); have aX := c9.lt; have c2 := c2.yy p0; (try clear aY); have aY := c2.lt; have hc := Ja hc p0) | (go_at_call 79; refine (HM2.out _).mono ?_; rintro e w4 ⟨rfl, q8⟩; (try clear j0 j6 j7 j8 j9); obtain ⟨c1, j0, j6, j7, j8, j9⟩ := c1.zc5 q8; (try clear p7); have p7 := c1.lt; (try clear p8 p9); obtain ⟨c6, p8, p9⟩ := c6.zc2 q8; (try clear aM); have aM := c6.lt; (try clear q9 s9 t7); obtain ⟨c8, q9, s9, t7⟩ := c8.zc3 q8; (try clear aO); have aO := c8.lt; (try clear aJ aK); obtain ⟨c9, aJ, aK⟩ := c9.zc2 q8; (try clear aX); have aX := c9.lt; have c2 := c2.yy q8; (try clear aY); have aY := c2.lt; have hc := Ja hc q8) | (go_at_call 76; refine (HPK.out _).mono ?_; rintro e w5 ⟨rfl, aP⟩; (try clear j0 j6 j7 j8 j9); obtain ⟨c1, j0, j6, j7, j8, j9⟩ := c1.zc5 aP; (try clear p7); have p7 := c1.lt; (try clear p8 p9); obtain ⟨c6, p8, p9⟩ := c6.zc2 aP; (try clear aM); have aM := c6.lt; (try clear q9 s9 t7); obtain ⟨c8, q9, s9, t7⟩ := c8.zc3 aP; (try clear aO); have aO := c8.lt; (try clear aJ aK); obtain ⟨c9, aJ, aK⟩ := c9.zc2 aP; (try clear aX); have aX := c9.lt; have c2 := c2.yy aP; (try clear aY); have aY := c2.lt; have hc := Ja hc aP; obtain ⟨eQ, eR, eS, eT, eU, eV, eW, eX, eY, eZ, dO, dP, dQ, dR, dS⟩ := c2.f5))
      all_goals
       go_wp2
       refine bodyPost_ret (v := .agg #[.bool nq, .int .u64 (lo Q : Int), .string (mo Q), .int .u64 (lo eq : Int), .string (mo eq)]) (by simp [results, Tryz.results53, go_sem, dO, dP, dQ, dR, dS]) rfl ?_
       exact ⟨rfl, Zf (Ja eN hc) (by omega) _ _ _ _ _⟩
theorem Jai (a b : Rat) (w : World) (ha : QS 137438953472 a) (hb : QS 137438953472 b) (hT : Tab w) :
  Calls Tryz.prog 53 #[qV a, qV b] w (Ret (qV (a + b)) w) := by
 by_cases h1 : a.den = 1
 ·by_cases h2 : b.den = 1
  ·exact Jh4 a b w ha hb h1 h2
  exact Jdf a b w ha hb (by simp [h2]) hT
 exact Jdf a b w ha hb (by simp [h1]) hT
