import Derived.Test.YtacbcaebaomglaaGreatDoorFracM
namespace Go.Proofs.YtacbcaebaomglaaGreatDoor
set_option maxRecDepth 100000
set_option maxHeartbeats 2000000
open Go.RowKit
set_option linter.all false
attribute [local irreducible] lo mo Calls
set_option maxRecDepth 100000 in
set_option maxHeartbeats 1000000 in
theorem Jh2 (a b : Rat) (w : World) (ha : QS 549755813888 a) (hb : QS 549755813888 b) (bE : a.den = 1) (o6 : b.den = 1) :
  Calls Tryz.prog 31 #[qV a, qV b] w (Ret (qV (a * b)) w) := by
 have aH := fun w => Qi a w (ha.mono (by omega))
 have aE := fun w => Qi b w (hb.mono (by omega))
 rw [decide_eq_true bE] at aH
 rw [decide_eq_true o6] at aE
 have bF := fun w => Jaq a.num b.num w (by have := ha.1; omega) (by have := hb.1; omega)
 obtain ⟨q1, q2⟩ := Jck a b bE o6
 have q3 := (Zc (a * b)).2 q2
 have q4 := (Zc a).2 bE
 have q5 := (Zc b).2 o6
 rw [<- q1] at bF
 unfold qV at aH aE ⊢
 rw [q4] at aH
 rw [q5] at aE
 rw [q3, q4, q5, Ju 0 (by omega), Jo 0 (by omega)]
 rw [Ju 0 (by omega), Jo 0 (by omega)] at aH aE
 unfold Js at bF
 clear q1 q2 q3 q4 q5 ha hb bE o6
 generalize decide (a.num < 0) = na at *
 generalize decide (b.num < 0) = nb at *
 generalize decide ((a * b).num < 0) = nq at *
 generalize (a * b).num.natAbs = Q at *
 generalize a.num.natAbs = A at *
 generalize b.num.natAbs = B at *
 have HWA := lh aH
 have HWB := lh aE
 have HMU := lh bF
 clear aH aE bF
 obtain ⟨b0, b1, b2, hB, hZ⟩ := bx3 w 65 #[.bool na, .int .u64 (lo A : Int), .string (mo A), .int .u64 ((0 : Nat) : Int), .string ⟨#[]⟩] 65 #[.bool nb, .int .u64 (lo B : Int), .string (mo B), .int .u64 ((0 : Nat) : Int), .string ⟨#[]⟩] 65 #[.bool false, .int .u64 0, .string ⟨#[]⟩, .int .u64 0, .string ⟨#[]⟩]
 go_enter Tryz.func31, Tryz.ntmps31
 go_wp2_with fail
 generalize (((w.alloc (.cells #[.bool na, .int .u64 (lo A : Int), .string (mo A), .int .u64 ((0 : Nat) : Int), .string ⟨#[]⟩] 65)).alloc (.cells #[.bool nb, .int .u64 (lo B : Int), .string (mo B), .int .u64 ((0 : Nat) : Int), .string ⟨#[]⟩] 65)).alloc (.cells #[.bool false, .int .u64 0, .string ⟨#[]⟩, .int .u64 0, .string ⟨#[]⟩] 65)) = W at *
 refine (HWA.out _).mono ?_
 rintro e w1 ⟨rfl, o6⟩
 have cL := Ja hB o6
 (try clear t7 t8 u4 u5 x7); obtain ⟨b0, t7, t8, u4, u5, x7⟩ := b0.zc5 o6; (try clear x8 x9 y8 y9 aA); obtain ⟨b1, x8, x9, y8, y9, aA⟩ := b1.zc5 o6
 have b2 := b2.below o6 b2.lt
 go_wp2_with fail
 refine (HWB.out _).mono ?_
 rintro e w2 ⟨rfl, aL⟩
 have cM := Ja cL aL
 (try clear t7 t8 u4 u5 x7); obtain ⟨b0, t7, t8, u4, u5, x7⟩ := b0.zc5 aL; (try clear x8 x9 y8 y9 aA); obtain ⟨b1, x8, x9, y8, y9, aA⟩ := b1.zc5 aL
 have b2 := b2.below aL b2.lt
 go_wp2_with fail
 refine (HMU.out _).mono ?_
 rintro e w3 ⟨rfl, cJ⟩
 have cN := Ja cM cJ
 (try clear bL bM bN bO bP bQ bR bS bT bU aY aZ bA bB bC); obtain ⟨b2, bL, bM, bN, bO, bP, bQ, bR, bS, bT, bU, aY, aZ, bA, bB, bC⟩ := b2.zf5 cJ
 go_wp2
 refine bodyPost_ret (v := .agg #[.bool nq, .int .u64 (lo Q : Int), .string (mo Q), .int .u64 ((0 : Nat) : Int), .string ⟨#[]⟩]) (by simp [results, Tryz.results31, go_sem, aY, aZ, bA, bB, bC]) rfl ?_
 exact ⟨rfl, Zf cN (by omega) _ _ _ _ _⟩
set_option maxRecDepth 100000 in
set_option maxHeartbeats 2000000 in
theorem Jde (a b : Rat) (w : World) (ha : QS 549755813888 a) (hb : QS 549755813888 b) (hw : (decide (a.den = 1) && decide (b.den = 1)) = false) (hT : Tab w) :
  Calls Tryz.prog 31 #[qV a, qV b] w (Ret (qV (a * b)) w) := by
 have aH := fun w => Qi a w (ha.mono (by omega))
 have aE := fun w => Qi b w (hb.mono (by omega))
 have bG := fun w => Zw a w (ha.mono (by omega))
 have bH := fun w => Zw b w (hb.mono (by omega))
 have aM := fun w => Qa false a.den w (by have := ha.2; omega)
 have aN := fun w => Qa false b.den w (by have := hb.2; omega)
 rw [show signed false a.den = (a.den : Int) from rfl] at aM
 rw [show signed false b.den = (b.den : Int) from rfl] at aN
 have aO := fun w (hT : Tab w) => Ke a.num b.den w ha.1 (by rw [Int.natAbs_natCast]; exact hb.2) hT
 have aP := fun w (hT : Tab w) => Ke b.num a.den w hb.1 (by rw [Int.natAbs_natCast]; exact ha.2) hT
 rw [Int.natAbs_natCast] at aO aP
 obtain ⟨q1, q2⟩ := Jcl a b rfl rfl
 have cK : QS 1099511627776 (a * b) := (ha.mul hb).mono (by omega)
 have g1 := Nat.gcd_dvd_left a.num.natAbs b.den
 have g2 := Nat.gcd_dvd_right a.num.natAbs b.den
 have g3 := Nat.gcd_dvd_left b.num.natAbs a.den
 have g4 := Nat.gcd_dvd_right b.num.natAbs a.den
 have g5 : Nat.gcd a.num.natAbs b.den ≠ 0 := fun h => b.den_nz (Nat.gcd_eq_zero_iff.1 h).2
 have g6 : Nat.gcd b.num.natAbs a.den ≠ 0 := fun h => a.den_nz (Nat.gcd_eq_zero_iff.1 h).2
 have g7 := nt (Jw (Nat.le_of_dvd b.den_pos g2)) hb.2
 have g8 := nt (Jw (Nat.le_of_dvd a.den_pos g4)) ha.2
 generalize Nat.gcd a.num.natAbs b.den = G at *
 generalize Nat.gcd b.num.natAbs a.den = H at *
 have bI := fun w => Vf a.num G w (by have := ha.1; omega) (by omega) g5 g1
 have bJ := fun w => Vf b.num H w (by have := hb.1; omega) (by omega) g6 g3
 have bV := fun w => Zo a.den H w (by have := ha.2; omega) (by omega) g6
 have bW := fun w => Zo b.den G w (by have := hb.2; omega) (by omega) g5
 have bK := fun w => Jaq (a.num / (G : Int)) (b.num / (H : Int)) w (by have := ha.1; have := Vi g1; omega) (by have := hb.1; have := Vi g3; omega)
 have hm2 := fun w => Jd5 (a.den / H) (b.den / G) w (by have := ha.2; have := Xr a.den H; omega) (by have := hb.2; have := Xr b.den G; omega)
 have bD := fun w => Vg (a * b) w cK
 rw [<- q1] at bK
 rw [<- q2] at hm2
 clear q1 q2 cK g1 g2 g3 g4 g5 g6 g7 g8
 unfold Jh at bG bH aM aN aO aP bI bJ bV bW hm2 bD
 unfold Js at aM aN aO aP bI bJ bK bD
 unfold qV at aH aE bG bH bD ⊢
 rw [Int.natAbs_natCast] at aM aN aO aP
 generalize a.num / (G : Int) = p1 at *
 generalize b.num / (H : Int) = p2 at *
 generalize a.den / H = d1 at *
 generalize b.den / G = d2 at *
 generalize a * b = q at *
 generalize decide (a.den = 1) = wa at *
 generalize decide (b.den = 1) = wb at *
 generalize decide (a.num < 0) = na at *
 generalize decide (b.num < 0) = nb at *
 generalize decide (q.num < 0) = nq at *
 generalize decide (p1 < 0) = np1 at *
 generalize decide (p2 < 0) = np2 at *
 generalize decide ((a.den : Int) < 0) = nda at *
 generalize decide ((b.den : Int) < 0) = ndb at *
 clear ha hb
 generalize qden a = ea at *
 generalize qden b = eb at *
 generalize qden q = eq at *
 generalize a.num.natAbs = A at *
 generalize b.num.natAbs = B at *
 generalize q.num.natAbs = Q at *
 generalize p1.natAbs = P1 at *
 generalize p2.natAbs = P2 at *
 generalize a.den = da at *
 generalize b.den = db at *
 generalize q.den = dq at *
 have HWA := lh aH
 have HWB := lh aE
 have HDA := lh bG
 have HDB := lh bH
 have HFA := lh aM
 have HFB := lh aN
 have HGG := lh aO
 have HGH := lh aP
 have HPA := lh bI
 have HPB := lh bJ
 have HOA := lh bV
 have HOB := lh bW
 have HM1 := lh bK
 have HM2 := lh hm2
 have HPK := lh bD
 clear aH aE bG bH aM aN aO aP bI bJ bV bW bK hm2 bD
 obtain ⟨b0, b1, b2, hB, hZ⟩ := bx3 w 65 #[.bool na, .int .u64 (lo A : Int), .string (mo A), .int .u64 (lo ea : Int), .string (mo ea)] 65 #[.bool nb, .int .u64 (lo B : Int), .string (mo B), .int .u64 (lo eb : Int), .string (mo eb)] 65 #[.bool false, .int .u64 0, .string ⟨#[]⟩, .int .u64 0, .string ⟨#[]⟩]
 have tT := hT.next hB
 go_enter Tryz.func31, Tryz.ntmps31
 go_upto_region 1 with fail
 generalize (((w.alloc (.cells #[.bool na, .int .u64 (lo A : Int), .string (mo A), .int .u64 (lo ea : Int), .string (mo ea)] 65)).alloc (.cells #[.bool nb, .int .u64 (lo B : Int), .string (mo B), .int .u64 (lo eb : Int), .string (mo eb)] 65)).alloc (.cells #[.bool false, .int .u64 0, .string ⟨#[]⟩, .int .u64 0, .string ⟨#[]⟩] 65)) = W at *
 have dJ : W.heap.size = w.heap.size + 1 + 1 + 1 := hZ.out
 go_cut [12] (fun v wc => v = .bool false /\ Below W.heap.size W wc)
 case first =>
  obtain ⟨t7, t8, u4, u5, x7⟩ := b0.c5; obtain ⟨x8, x9, y8, y9, aA⟩ := b1.c5
  go_wp2_with fail
  refine (HWA.out _).mono ?_
  rintro e w1 ⟨rfl, o6⟩
  (try clear t7 t8 u4 u5 x7); obtain ⟨b0, t7, t8, u4, u5, x7⟩ := b0.zc5 o6; (try clear x8 x9 y8 y9 aA); obtain ⟨b1, x8, x9, y8, y9, aA⟩ := b1.zc5 o6
  cases wa with
  | true =>
   have aE : wb = false := by simpa using hw
   subst aE
   go_wp2_with fail
   refine (HWB.out _).mono ?_
   rintro e w2 ⟨rfl, aL⟩
   go_wp2
   go_meet
   exact ⟨rfl, Ja o6 aL⟩
  | false =>
   go_wp2
   go_meet
   exact ⟨rfl, o6⟩
 case rest =>
  obtain ⟨rfl, aK⟩ := hcut
  rename World => wc
  clear HWA HWB hw
  have b0 := b0.below aK b0.lt
  have b1 := b1.below aK b1.lt
  have b2 := b2.below aK b2.lt
  have tT := tT.next aK
  go_upto_region 3 with fail
  go_cut [5] (fun v wd => Kr wc 61 #[.int .u64 (lo G : Int), .string (mo G)] v wd)
  case first =>
   obtain ⟨t7, t8, u4, u5, x7⟩ := b0.c5; have aI := b0.lt; have c0 := b0.drew; have p7 := c0.lt; obtain ⟨x8, x9, y8, y9, aA⟩ := b1.c5; have aJ := b1.lt; have c1 := b1.drew; have p8 := c1.lt; have hc := Jl wc; have tT : Tab wc.drew := tT; go_region_held3 (fun w' => w'.cell? ⟨w.heap.size, 0, none⟩ = some (.bool na) /\ w'.cell? ⟨w.heap.size, 1, none⟩ = some (.int .u64 (lo A : Int)) /\ w'.cell? ⟨w.heap.size, 2, none⟩ = some (.string (mo A)) /\ w'.cell? ⟨w.heap.size, 3, none⟩ = some (.int .u64 (lo ea : Int)) /\ w'.cell? ⟨w.heap.size, 4, none⟩ = some (.string (mo ea)) /\ w'.cell? ⟨w.heap.size + 1, 0, none⟩ = some (.bool nb) /\ w'.cell? ⟨w.heap.size + 1, 1, none⟩ = some (.int .u64 (lo B : Int)) /\ w'.cell? ⟨w.heap.size + 1, 2, none⟩ = some (.string (mo B)) /\ w'.cell? ⟨w.heap.size + 1, 3, none⟩ = some (.int .u64 (lo eb : Int)) /\ w'.cell? ⟨w.heap.size + 1, 4, none⟩ = some (.string (mo eb))) (go_keep) (first | (go_at_call 75; refine (HDB.out _).mono ?_; rintro e w1 ⟨rfl, p9⟩; (try clear e8 e9 j0 j6 j7); obtain ⟨c0, e8, e9, j0, j6, j7⟩ := c0.zc5 p9; (try clear p7); have p7 := c0.lt; (try clear j8 j9 l5 l7 o0); obtain ⟨c1, j8, j9, l5, l7, o0⟩ := c1.zc5 p9; (try clear p8); have p8 := c1.lt; (try have ca := ca.yy p9); (first | have tT := tT.next p9 | have tT := (tT.next (Jb _ _)).next p9 | have tT := (tT.next (Ji _ _ _)).next p9); (first | have hc := Ja hc p9 | (have o6 := Qp hc p9; obtain ⟨ca, q9, hc⟩ := o6) | (have o6 := Qx hc p9; obtain ⟨ca, q9, hc⟩ := o6)); (try have aF := Jq aI q9); (try have aG := Jq aJ q9)) | (go_at_call 67; refine (HFB.out _).mono ?_; rintro e w2 ⟨rfl, q8⟩; (try clear e8 e9 j0 j6 j7); obtain ⟨c0, e8, e9, j0, j6, j7⟩ := c0.zc5 q8; (try clear p7); have p7 := c0.lt; (try clear j8 j9 l5 l7 o0); obtain ⟨c1, j8, j9, l5, l7, o0⟩ := c1.zc5 q8; (try clear p8); have p8 := c1.lt; (try have ca := ca.yy q8); (first | have tT := tT.next q8 | have tT := (tT.next (Jb _ _)).next q8 | have tT := (tT.next (Ji _ _ _)).next q8); (first | have hc := Ja hc q8 | (have o6 := Qp hc q8; obtain ⟨ca, q9, hc⟩ := o6) | (have o6 := Qx hc q8; obtain ⟨ca, q9, hc⟩ := o6)); (try have aF := Jq aI q9); (try have aG := Jq aJ q9)) | (go_at_call 74; (first | refine (HGG.out _ tT).mono ?_ | refine (HGG.out _ (tT.next (Jb _ _))).mono ?_ | refine (HGG.out _ (tT.next (Ji _ _ _))).mono ?_); rintro e w3 ⟨rfl, s9⟩; (try clear e8 e9 j0 j6 j7); obtain ⟨c0, e8, e9, j0, j6, j7⟩ := c0.zc5 s9; (try clear p7); have p7 := c0.lt; (try clear j8 j9 l5 l7 o0); obtain ⟨c1, j8, j9, l5, l7, o0⟩ := c1.zc5 s9; (try clear p8); have p8 := c1.lt; (try have ca := ca.yy s9); (first | have hc := Ja hc s9 | (have o6 := Qp hc s9; obtain ⟨ca, q9, hc⟩ := o6) | (have o6 := Qx hc s9; obtain ⟨ca, q9, hc⟩ := o6)); (try have aF := Jq aI q9); (try have aG := Jq aJ q9); (try (have cO := ca.lt; obtain ⟨bX, bY, bZ, cA, cB, cC⟩ := ca.f2))))
   all_goals
    go_wp2
    go_meet
    (first | exact Jco hc ca q9 | exact Jco (Ja hc (Jb _ _)) (Blk.new _ _ _) hc.size | exact ⟨_, rfl, hc.size, Blk.new _ _ _, Ja hc (Jb _ _)⟩)
  case rest =>
   obtain ⟨g, rfl, hg, b5, aQ⟩ := hcut
   rename World => wd
   have b0 := b0.below aQ b0.lt
   have b1 := b1.below aQ b1.lt
   have b2 := b2.below aQ b2.lt
   have tT := tT.next aQ
   have cP := nt aK.size hg
   have cD := Ja aK aQ
   clear aK aQ hg HFB HGG
   go_upto_region 4 with fail
   go_cut [6] (fun v we => Kr wd 61 #[.int .u64 (lo H : Int), .string (mo H)] v we)
   case first =>
    obtain ⟨t7, t8, u4, u5, x7⟩ := b0.c5; have aI := b0.lt; have c0 := b0.drew; have p7 := c0.lt; obtain ⟨x8, x9, y8, y9, aA⟩ := b1.c5; have aJ := b1.lt; have c1 := b1.drew; have p8 := c1.lt; have hc := Jl wd; have tT : Tab wd.drew := tT; go_region_held3 (fun w' => w'.cell? ⟨w.heap.size, 0, none⟩ = some (.bool na) /\ w'.cell? ⟨w.heap.size, 1, none⟩ = some (.int .u64 (lo A : Int)) /\ w'.cell? ⟨w.heap.size, 2, none⟩ = some (.string (mo A)) /\ w'.cell? ⟨w.heap.size, 3, none⟩ = some (.int .u64 (lo ea : Int)) /\ w'.cell? ⟨w.heap.size, 4, none⟩ = some (.string (mo ea)) /\ w'.cell? ⟨w.heap.size + 1, 0, none⟩ = some (.bool nb) /\ w'.cell? ⟨w.heap.size + 1, 1, none⟩ = some (.int .u64 (lo B : Int)) /\ w'.cell? ⟨w.heap.size + 1, 2, none⟩ = some (.string (mo B)) /\ w'.cell? ⟨w.heap.size + 1, 3, none⟩ = some (.int .u64 (lo eb : Int)) /\ w'.cell? ⟨w.heap.size + 1, 4, none⟩ = some (.string (mo eb))) (go_keep) (first | (go_at_call 75; refine (HDA.out _).mono ?_; rintro e w1 ⟨rfl, p9⟩; (try clear e8 e9 j0 j6 j7); obtain ⟨c0, e8, e9, j0, j6, j7⟩ := c0.zc5 p9; (try clear p7); have p7 := c0.lt; (try clear j8 j9 l5 l7 o0); obtain ⟨c1, j8, j9, l5, l7, o0⟩ := c1.zc5 p9; (try clear p8); have p8 := c1.lt; (try have ca := ca.yy p9); (first | have tT := tT.next p9 | have tT := (tT.next (Jb _ _)).next p9 | have tT := (tT.next (Ji _ _ _)).next p9); (first | have hc := Ja hc p9 | (have o6 := Qp hc p9; obtain ⟨ca, q9, hc⟩ := o6) | (have o6 := Qx hc p9; obtain ⟨ca, q9, hc⟩ := o6)); (try have aF := Jq aI q9); (try have aG := Jq aJ q9)) | (go_at_call 67; refine (HFA.out _).mono ?_; rintro e w2 ⟨rfl, q8⟩; (try clear e8 e9 j0 j6 j7); obtain ⟨c0, e8, e9, j0, j6, j7⟩ := c0.zc5 q8; (try clear p7); have p7 := c0.lt; (try clear j8 j9 l5 l7 o0); obtain ⟨c1, j8, j9, l5, l7, o0⟩ := c1.zc5 q8; (try clear p8); have p8 := c1.lt; (try have ca := ca.yy q8); (first | have tT := tT.next q8 | have tT := (tT.next (Jb _ _)).next q8 | have tT := (tT.next (Ji _ _ _)).next q8); (first | have hc := Ja hc q8 | (have o6 := Qp hc q8; obtain ⟨ca, q9, hc⟩ := o6) | (have o6 := Qx hc q8; obtain ⟨ca, q9, hc⟩ := o6)); (try have aF := Jq aI q9); (try have aG := Jq aJ q9)) | (go_at_call 74; (first | refine (HGH.out _ tT).mono ?_ | refine (HGH.out _ (tT.next (Jb _ _))).mono ?_ | refine (HGH.out _ (tT.next (Ji _ _ _))).mono ?_); rintro e w3 ⟨rfl, s9⟩; (try clear e8 e9 j0 j6 j7); obtain ⟨c0, e8, e9, j0, j6, j7⟩ := c0.zc5 s9; (try clear p7); have p7 := c0.lt; (try clear j8 j9 l5 l7 o0); obtain ⟨c1, j8, j9, l5, l7, o0⟩ := c1.zc5 s9; (try clear p8); have p8 := c1.lt; (try have ca := ca.yy s9); (first | have hc := Ja hc s9 | (have o6 := Qp hc s9; obtain ⟨ca, q9, hc⟩ := o6) | (have o6 := Qx hc s9; obtain ⟨ca, q9, hc⟩ := o6)); (try have aF := Jq aI q9); (try have aG := Jq aJ q9); (try (have cO := ca.lt; obtain ⟨bX, bY, bZ, cA, cB, cC⟩ := ca.f2))))
    all_goals
     go_wp2
     go_meet
     (first | exact Jco hc ca q9 | exact Jco (Ja hc (Jb _ _)) (Blk.new _ _ _) hc.size | exact ⟨_, rfl, hc.size, Blk.new _ _ _, Ja hc (Jb _ _)⟩)
   case rest =>
    obtain ⟨h, rfl, hh, b6, aR⟩ := hcut
    rename World => we
    have b0 := b0.below aR b0.lt
    have b1 := b1.below aR b1.lt
    have b2 := b2.below aR b2.lt
    have b5 := b5.below aR b5.lt
    have cQ := nt cD.size hh
    have cS := Ja hB (Ja cD aR)
    clear cD aR hh HFA HGH tT
    have n0 := Jq (show w.heap.size < w.heap.size + 1 + 1 by omega) zd
    have n1 := Jq (show w.heap.size + 1 < w.heap.size + 1 + 1 by omega) zd
    have n2 := Jq (show w.heap.size + 1 + 1 < W.heap.size by omega) cP
    have n3 := Jq (show w.heap.size + 1 + 1 < W.heap.size by omega) cQ
    go_upto_region 5 with fail
    obtain ⟨t7, t8, u4, u5, x7⟩ := b0.c5; have aI := b0.lt; have c0 := b0.drew; have p7 := c0.lt; obtain ⟨x8, x9, y8, y9, aA⟩ := b1.c5; have aJ := b1.lt; have c1 := b1.drew; have p8 := c1.lt; obtain ⟨cT, cU⟩ := b5.c2; have dK := b5.lt; have c5 := b5.drew; have aB := c5.lt; obtain ⟨cV, cW⟩ := b6.c2; have dL := b6.lt; have c6 := b6.drew; have aC := c6.lt; have c2 := b2.drew; have aD := c2.lt; have hc := Jl we; go_region_held3 (fun w' => w'.cell? ⟨w.heap.size, 0, none⟩ = some (.bool na) /\ w'.cell? ⟨w.heap.size, 1, none⟩ = some (.int .u64 (lo A : Int)) /\ w'.cell? ⟨w.heap.size, 2, none⟩ = some (.string (mo A)) /\ w'.cell? ⟨w.heap.size, 3, none⟩ = some (.int .u64 (lo ea : Int)) /\ w'.cell? ⟨w.heap.size, 4, none⟩ = some (.string (mo ea)) /\ w'.cell? ⟨w.heap.size + 1, 0, none⟩ = some (.bool nb) /\ w'.cell? ⟨w.heap.size + 1, 1, none⟩ = some (.int .u64 (lo B : Int)) /\ w'.cell? ⟨w.heap.size + 1, 2, none⟩ = some (.string (mo B)) /\ w'.cell? ⟨w.heap.size + 1, 3, none⟩ = some (.int .u64 (lo eb : Int)) /\ w'.cell? ⟨w.heap.size + 1, 4, none⟩ = some (.string (mo eb)) /\ w'.cell? ⟨g, 0, none⟩ = some (.int .u64 (lo G : Int)) /\ w'.cell? ⟨g, 1, none⟩ = some (.string (mo G)) /\ w'.cell? ⟨h, 0, none⟩ = some (.int .u64 (lo H : Int)) /\ w'.cell? ⟨h, 1, none⟩ = some (.string (mo H))) (go_keep) (first | (go_at_call 77; refine (HPA.out _).mono ?_; rintro e w1 ⟨rfl, p9⟩; (try clear e8 e9 j0 j6 j7); obtain ⟨c0, e8, e9, j0, j6, j7⟩ := c0.zc5 p9; (try clear p7); have p7 := c0.lt; (try clear j8 j9 l5 l7 o0); obtain ⟨c1, j8, j9, l5, l7, o0⟩ := c1.zc5 p9; (try clear p8); have p8 := c1.lt; (try clear o7 o8); obtain ⟨c5, o7, o8⟩ := c5.zc2 p9; (try clear aB); have aB := c5.lt; (try clear o9 p0); obtain ⟨c6, o9, p0⟩ := c6.zc2 p9; (try clear aC); have aC := c6.lt; have c2 := c2.yy p9; (try clear aD); have aD := c2.lt; have hc := Ja hc p9) | (go_at_call 77; refine (HPB.out _).mono ?_; rintro e w2 ⟨rfl, q8⟩; (try clear e8 e9 j0 j6 j7); obtain ⟨c0, e8, e9, j0, j6, j7⟩ := c0.zc5 q8; (try clear p7); have p7 := c0.lt; (try clear j8 j9 l5 l7 o0); obtain ⟨c1, j8, j9, l5, l7, o0⟩ := c1.zc5 q8; (try clear p8); have p8 := c1.lt; (try clear o7 o8); obtain ⟨c5, o7, o8⟩ := c5.zc2 q8; (try clear aB); have aB := c5.lt; (try clear o9 p0); obtain ⟨c6, o9, p0⟩ := c6.zc2 q8; (try clear aC); have aC := c6.lt; have c2 := c2.yy q8; (try clear aD); have aD := c2.lt; have hc := Ja hc q8) | (go_at_call 73; refine (HM1.out _).mono ?_; rintro e w3 ⟨rfl, s9⟩; (try clear e8 e9 j0 j6 j7); obtain ⟨c0, e8, e9, j0, j6, j7⟩ := c0.zc5 s9; (try clear p7); have p7 := c0.lt; (try clear j8 j9 l5 l7 o0); obtain ⟨c1, j8, j9, l5, l7, o0⟩ := c1.zc5 s9; (try clear p8); have p8 := c1.lt; (try clear o7 o8); obtain ⟨c5, o7, o8⟩ := c5.zc2 s9; (try clear aB); have aB := c5.lt; (try clear o9 p0); obtain ⟨c6, o9, p0⟩ := c6.zc2 s9; (try clear aC); have aC := c6.lt; have c2 := c2.yy s9; (try clear aD); have aD := c2.lt; have hc := Ja hc s9) | (go_at_call 75; refine (HDA.out _).mono ?_; rintro e w4 ⟨rfl, aS⟩; (try clear e8 e9 j0 j6 j7); obtain ⟨c0, e8, e9, j0, j6, j7⟩ := c0.zc5 aS; (try clear p7); have p7 := c0.lt; (try clear j8 j9 l5 l7 o0); obtain ⟨c1, j8, j9, l5, l7, o0⟩ := c1.zc5 aS; (try clear p8); have p8 := c1.lt; (try clear o7 o8); obtain ⟨c5, o7, o8⟩ := c5.zc2 aS; (try clear aB); have aB := c5.lt; (try clear o9 p0); obtain ⟨c6, o9, p0⟩ := c6.zc2 aS; (try clear aC); have aC := c6.lt; have c2 := c2.yy aS; (try clear aD); have aD := c2.lt; have hc := Ja hc aS) | (go_at_call 78; refine (HOA.out _).mono ?_; rintro e w5 ⟨rfl, aT⟩; (try clear e8 e9 j0 j6 j7); obtain ⟨c0, e8, e9, j0, j6, j7⟩ := c0.zc5 aT; (try clear p7); have p7 := c0.lt; (try clear j8 j9 l5 l7 o0); obtain ⟨c1, j8, j9, l5, l7, o0⟩ := c1.zc5 aT; (try clear p8); have p8 := c1.lt; (try clear o7 o8); obtain ⟨c5, o7, o8⟩ := c5.zc2 aT; (try clear aB); have aB := c5.lt; (try clear o9 p0); obtain ⟨c6, o9, p0⟩ := c6.zc2 aT; (try clear aC); have aC := c6.lt; have c2 := c2.yy aT; (try clear aD); have aD := c2.lt; have hc := Ja hc aT) | (go_at_call 75; refine (HDB.out _).mono ?_; rintro e w6 ⟨rfl, aU⟩; (try clear e8 e9 j0 j6 j7); obtain ⟨c0, e8, e9, j0, j6, j7⟩ := c0.zc5 aU; (try clear p7); have p7 := c0.lt; (try clear j8 j9 l5 l7 o0); obtain ⟨c1, j8, j9, l5, l7, o0⟩ := c1.zc5 aU; (try clear p8); have p8 := c1.lt; (try clear o7 o8); obtain ⟨c5, o7, o8⟩ := c5.zc2 aU; (try clear aB); have aB := c5.lt; (try clear o9 p0); obtain ⟨c6, o9, p0⟩ := c6.zc2 aU; (try clear aC); have aC := c6.lt; have c2 := c2.yy aU; (try clear aD); have aD := c2.lt; have hc := Ja hc aU) | (go_at_call 78; refine (HOB.out _).mono ?_; rintro e w7 ⟨rfl, aV⟩; (try clear e8 e9 j0 j6 j7); obtain ⟨c0, e8, e9, j0, j6, j7⟩ := c0.zc5 aV; (try clear p7); have p7 := c0.lt; (try clear j8 j9 l5 l7 o0); obtain ⟨c1, j8, j9, l5, l7, o0⟩ := c1.zc5 aV; (try clear p8); have p8 := c1.lt; (try clear o7 o8); obtain ⟨c5, o7, o8⟩ := c5.zc2 aV; (try clear aB); have aB := c5.lt; (try clear o9 p0); obtain ⟨c6, o9, p0⟩ := c6.zc2 aV; (try clear aC); have aC := c6.lt; have c2 := c2.yy aV; (try clear aD); have aD := c2.lt; have hc := Ja hc aV) | (go_at_call 79; refine (HM2.out _).mono ?_; rintro e w8 ⟨rfl, aW⟩; (try clear e8 e9 j0 j6 j7); obtain ⟨c0, e8, e9, j0, j6, j7⟩ := c0.zc5 aW; (try clear p7); have p7 := c0.lt; (try clear j8 j9 l5 l7 o0); obtain ⟨c1, j8, j9, l5, l7, o0⟩ := c1.zc5 aW; (try clear p8); have p8 := c1.lt; (try clear o7 o8); obtain ⟨c5, o7, o8⟩ := c5.zc2 aW; (try clear aB); have aB := c5.lt; (try clear o9 p0); obtain ⟨c6, o9, p0⟩ := c6.zc2 aW; (try clear aC); have aC := c6.lt; have c2 := c2.yy aW; (try clear aD); have aD := c2.lt; have hc := Ja hc aW) | (go_at_call 76; refine (HPK.out _).mono ?_; rintro e w9 ⟨rfl, aX⟩; (try clear e8 e9 j0 j6 j7); obtain ⟨c0, e8, e9, j0, j6, j7⟩ := c0.zc5 aX; (try clear p7); have p7 := c0.lt; (try clear j8 j9 l5 l7 o0); obtain ⟨c1, j8, j9, l5, l7, o0⟩ := c1.zc5 aX; (try clear p8); have p8 := c1.lt; (try clear o7 o8); obtain ⟨c5, o7, o8⟩ := c5.zc2 aX; (try clear aB); have aB := c5.lt; (try clear o9 p0); obtain ⟨c6, o9, p0⟩ := c6.zc2 aX; (try clear aC); have aC := c6.lt; have c2 := c2.yy aX; (try clear aD); have aD := c2.lt; have hc := Ja hc aX; obtain ⟨cZ, dA, dB, dC, dD, dE, dF, dG, dH, dI, cE, cF, cG, cH, cI⟩ := c2.f5))
    all_goals
     go_wp2
     refine bodyPost_ret (v := .agg #[.bool nq, .int .u64 (lo Q : Int), .string (mo Q), .int .u64 (lo eq : Int), .string (mo eq)]) (by simp [results, Tryz.results31, go_sem, cE, cF, cG, cH, cI]) rfl ?_
     exact ⟨rfl, Zf (Ja cS hc) (by omega) _ _ _ _ _⟩
theorem Jfn (a b : Rat) (w : World) (ha : QS 549755813888 a) (hb : QS 549755813888 b) (hT : Tab w) :
  Calls Tryz.prog 31 #[qV a, qV b] w (Ret (qV (a * b)) w) := by
 by_cases h1 : a.den = 1
 ·by_cases h2 : b.den = 1
  ·exact Jh2 a b w ha hb h1 h2
  exact Jde a b w ha hb (by simp [h2]) hT
 exact Jde a b w ha hb (by simp [h1]) hT
