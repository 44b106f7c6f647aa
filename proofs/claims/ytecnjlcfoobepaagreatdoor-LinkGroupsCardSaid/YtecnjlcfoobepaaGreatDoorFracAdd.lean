import Derived.Test.YtecnjlcfoobepaaGreatDoorFracM
import Derived.Test.YtecnjlcfoobepaaGreatDoorWholeAdd
namespace Go.Proofs.YtecnjlcfoobepaaGreatDoor
set_option maxRecDepth 100000
set_option maxHeartbeats 8000000
open Go.RowKit
set_option linter.all false
attribute [local irreducible] lo mo Calls
set_option maxRecDepth 100000 in
set_option maxHeartbeats 1000000 in
theorem Jn1 (a b : Rat) (w : World) (ha : QS 137438953472 a) (hb : QS 137438953472 b) (cD : a.den = 1) (j6 : b.den = 1) :
  Calls Tryz.prog 124 #[qV a, qV b] w (Ret (qV (a + b)) w) := by
 have bN := fun w => Qu a w (ha.mono (by omega))
 have bI := fun w => Qu b w (hb.mono (by omega))
 rw [decide_eq_true cD] at bN
 rw [decide_eq_true j6] at bI
 have cT := fun w => Jf3 a.num b.num w (by have := ha.1; omega) (by have := hb.1; omega)
 obtain ⟨q1, q2⟩ := Jfq a b cD j6
 have q3 := (Yb (a + b)).2 q2
 have q4 := (Yb a).2 cD
 have q5 := (Yb b).2 j6
 rw [<- q1] at cT
 unfold qV at bN bI ⊢
 rw [q4] at bN
 rw [q5] at bI
 rw [q3, q4, q5, Qc 0 (by omega), Jx 0 (by omega)]
 rw [Qc 0 (by omega), Jx 0 (by omega)] at bN bI
 unfold Qa at cT
 clear q1 q2 q3 q4 q5 ha hb cD j6
 generalize decide (a.num < 0) = na at *
 generalize decide (b.num < 0) = nb at *
 generalize decide ((a + b).num < 0) = nq at *
 generalize (a + b).num.natAbs = Q at *
 generalize a.num.natAbs = A at *
 generalize b.num.natAbs = B at *
 have HWA := lh bN
 have HWB := lh bI
 have HMU := lh cT
 clear bN bI cT
 obtain ⟨b0, b1, b2, hB, hZ⟩ := bx3 w 56 #[.bool na, .int .u64 (lo A : Int), .string (mo A), .int .u64 ((0 : Nat) : Int), .string ⟨#[]⟩] 56 #[.bool nb, .int .u64 (lo B : Int), .string (mo B), .int .u64 ((0 : Nat) : Int), .string ⟨#[]⟩] 56 #[.bool false, .int .u64 0, .string ⟨#[]⟩, .int .u64 0, .string ⟨#[]⟩]
 go_enter Tryz.func124, Tryz.ntmps124
 go_wp2_with fail
 generalize (((w.alloc (.cells #[.bool na, .int .u64 (lo A : Int), .string (mo A), .int .u64 ((0 : Nat) : Int), .string ⟨#[]⟩] 56)).alloc (.cells #[.bool nb, .int .u64 (lo B : Int), .string (mo B), .int .u64 ((0 : Nat) : Int), .string ⟨#[]⟩] 56)).alloc (.cells #[.bool false, .int .u64 0, .string ⟨#[]⟩, .int .u64 0, .string ⟨#[]⟩] 56)) = W at *
 refine (HWA.out _).mono ?_
 rintro e w1 ⟨rfl, j6⟩
 have eP := Ja hB j6
 (try clear aU aV aW aX aY); obtain ⟨b0, aU, aV, aW, aX, aY⟩ := b0.zc5 j6; (try clear aP aQ aR aS aT); obtain ⟨b1, aP, aQ, aR, aS, aT⟩ := b1.zc5 j6
 have b2 := b2.below j6 b2.lt
 go_wp2_with fail
 refine (HWB.out _).mono ?_
 rintro e w2 ⟨rfl, bQ⟩
 have eQ := Ja eP bQ
 (try clear aU aV aW aX aY); obtain ⟨b0, aU, aV, aW, aX, aY⟩ := b0.zc5 bQ; (try clear aP aQ aR aS aT); obtain ⟨b1, aP, aQ, aR, aS, aT⟩ := b1.zc5 bQ
 have b2 := b2.below bQ b2.lt
 go_wp2_with fail
 refine (HMU.out _).mono ?_
 rintro e w3 ⟨rfl, eL⟩
 have eR := Ja eQ eL
 (try clear dG dH dI dJ dK dL dM dN dO dP cK cL cM cN cO); obtain ⟨b2, dG, dH, dI, dJ, dK, dL, dM, dN, dO, dP, cK, cL, cM, cN, cO⟩ := b2.zf5 eL
 go_wp2
 refine bodyPost_ret (v := .agg #[.bool nq, .int .u64 (lo Q : Int), .string (mo Q), .int .u64 ((0 : Nat) : Int), .string ⟨#[]⟩]) (by simp [results, Tryz.results124, go_sem, cK, cL, cM, cN, cO]) rfl ?_
 exact ⟨rfl, Qy eR (by omega) _ _ _ _ _⟩
set_option maxRecDepth 100000 in
set_option maxHeartbeats 8000000 in
theorem Jgi (a b : Rat) (w : World) (ha : QS 137438953472 a) (hb : QS 137438953472 b) (hw : (decide (a.den = 1) && decide (b.den = 1)) = false) (hT : Tab w) :
  Calls Tryz.prog 124 #[qV a, qV b] w (Ret (qV (a + b)) w) := by
 have cD := ha.1
 have eM := ha.2
 have j6 := hb.1
 have bQ := hb.2
 have bN := fun w => Qu a w (ha.mono (by omega))
 have bI := fun w => Qu b w (hb.mono (by omega))
 have cU := fun w => Kg a w (ha.mono (by omega))
 have cV := fun w => Kg b w (hb.mono (by omega))
 have cE := fun w => Qh false a.den w (by omega)
 have cF := fun w => Qh false b.den w (by omega)
 rw [show signed false a.den = (a.den : Int) from rfl] at cE
 rw [show signed false b.den = (b.den : Int) from rfl] at cF
 have bR := fun w (hT : Tab w) => Uu a.den b.den w (by rw [Int.natAbs_natCast]; omega) (by rw [Int.natAbs_natCast]; omega) hT
 rw [Int.natAbs_natCast, Int.natAbs_natCast] at bR
 obtain ⟨G, hG⟩ : ∃ G, Nat.gcd a.den b.den = G := ⟨_, rfl⟩
 rw [hG] at bR
 have g1 : G ∣ a.den := by rw [<- hG]; exact Nat.gcd_dvd_left ..
 have g2 : G ∣ b.den := by rw [<- hG]; exact Nat.gcd_dvd_right ..
 have g3 : G ≠ 0 := fun h => a.den_nz (Nat.gcd_eq_zero_iff.1 (hG.trans h)).1
 have g4 := nt (Qb (Nat.le_of_dvd a.den_pos g1)) eM
 have cG := fun w => Qh false G w (by omega)
 rw [show signed false G = (G : Int) from rfl] at cG
 obtain ⟨D, hD⟩ : ∃ D, a.den / G = D := ⟨_, rfl⟩
 obtain ⟨O, hO⟩ : ∃ O, b.den / G = O := ⟨_, rfl⟩
 have d1 : Je D <= 137438953472 := by rw [<- hD]; have := Zn a.den G; omega
 have d2 : Je O <= 137438953472 := by rw [<- hO]; have := Zn b.den G; omega
 have cZ := fun w => Yt a.den G w (by omega) (by omega) g3
 have dA := fun w => Yt b.den G w (by omega) (by omega) g3
 rw [hD] at cZ
 rw [hO] at dA
 have dB := fun w => Vu a.num O w (by omega) (by omega)
 have dC := fun w => Vu b.num D w (by omega) (by omega)
 have t1 := Yx a.num O
 have t2 := Yx b.num D
 rw [Int.natAbs_natCast] at t1 t2
 have dD := fun w => Jf3 (a.num * O) (b.num * D) w (by omega) (by omega)
 have t3 := Jgw (a.num * O) (b.num * D)
 obtain ⟨U, hU⟩ : ∃ U, a.num * (O : Int) + b.num * (D : Int) = U := ⟨_, rfl⟩
 rw [hU] at dD t3
 have t4 : Je U.natAbs <= 549755813888 := by omega
 have bS := fun w (hT : Tab w) => Uu U G w t4 (by rw [Int.natAbs_natCast]; omega) hT
 rw [Int.natAbs_natCast] at bS
 obtain ⟨H, hH⟩ : ∃ H, Nat.gcd U.natAbs G = H := ⟨_, rfl⟩
 rw [hH] at bS
 have e1 : H ∣ U.natAbs := by rw [<- hH]; exact Nat.gcd_dvd_left ..
 have e2 : H ∣ G := by rw [<- hH]; exact Nat.gcd_dvd_right ..
 have e3 : H ≠ 0 := fun h => g3 (Nat.gcd_eq_zero_iff.1 (hH.trans h)).2
 have e4 := nt (Qb (Nat.le_of_dvd (by omega) e2)) g4
 obtain ⟨q1, q2⟩ := Jfr a b hG hD hO hU hH
 have eO : QS 1099511627776 (a + b) := (ha.add hb).mono (by omega)
 have cP := fun w => Jbg U H w (by omega) (by omega) e3 e1
 have dQ := fun w => Yt b.den H w (by omega) (by omega) e3
 have dE := fun w => Jhl D (b.den / H) w (by omega) (by have := Zn b.den H; omega)
 have cQ := fun w => Jbh (a + b) w eO
 rw [<- q1] at cP
 rw [<- q2] at dE
 clear q1 q2 eO g1 g2 g3 g4 d1 d2 t1 t2 t3 t4 e1 e2 e3 e4 hG hD hO hU hH ha hb cD eM j6 bQ
 unfold Jj at cU cV cE cF cG bR bS cP cZ dA dQ dB dC dE cQ
 unfold Qa at cE cF cG bR bS cP dB dC dD cQ
 unfold qV at bN bI cU cV cQ ⊢
 rw [Int.natAbs_natCast] at cE cF cG bS
 rw [Int.natAbs_natCast, Int.natAbs_natCast] at bR
 generalize b.den / H = d2 at *
 generalize a.num * (O : Int) = p1 at *
 generalize b.num * (D : Int) = p2 at *
 generalize a + b = q at *
 generalize decide (a.den = 1) = wa at *
 generalize decide (b.den = 1) = wb at *
 generalize decide (a.num < 0) = na at *
 generalize decide (b.num < 0) = nb at *
 generalize decide (q.num < 0) = nq at *
 generalize decide (p1 < 0) = np1 at *
 generalize decide (p2 < 0) = np2 at *
 generalize decide (U < 0) = nu at *
 generalize decide ((a.den : Int) < 0) = nda at *
 generalize decide ((b.den : Int) < 0) = ndb at *
 generalize decide ((G : Int) < 0) = ndg at *
 generalize qden a = ea at *
 generalize qden b = eb at *
 generalize qden q = eq at *
 generalize a.num.natAbs = A at *
 generalize b.num.natAbs = B at *
 generalize q.num.natAbs = Q at *
 generalize p1.natAbs = P1 at *
 generalize p2.natAbs = P2 at *
 generalize U.natAbs = V at *
 generalize a.den = da at *
 generalize b.den = db at *
 generalize q.den = dq at *
 have HWA := lh bN
 have HWB := lh bI
 have HDA := lh cU
 have HDB := lh cV
 have HFA := lh cE
 have HFB := lh cF
 have HFG := lh cG
 have HGG := lh bR
 have HGH := lh bS
 have HPA := lh cP
 have HOA := lh cZ
 have HOB := lh dA
 have HOH := lh dQ
 have HTA := lh dB
 have HTB := lh dC
 have HUP := lh dD
 have HM2 := lh dE
 have HPK := lh cQ
 clear bN bI cU cV cE cF cG bR bS cP cZ dA dQ dB dC dD dE cQ
 obtain ⟨b0, b1, b2, hB, hZ⟩ := bx3 w 56 #[.bool na, .int .u64 (lo A : Int), .string (mo A), .int .u64 (lo ea : Int), .string (mo ea)] 56 #[.bool nb, .int .u64 (lo B : Int), .string (mo B), .int .u64 (lo eb : Int), .string (mo eb)] 56 #[.bool false, .int .u64 0, .string ⟨#[]⟩, .int .u64 0, .string ⟨#[]⟩]
 have tT := hT.next hB
 go_enter Tryz.func124, Tryz.ntmps124
 go_upto_region 1 with fail
 generalize (((w.alloc (.cells #[.bool na, .int .u64 (lo A : Int), .string (mo A), .int .u64 (lo ea : Int), .string (mo ea)] 56)).alloc (.cells #[.bool nb, .int .u64 (lo B : Int), .string (mo B), .int .u64 (lo eb : Int), .string (mo eb)] 56)).alloc (.cells #[.bool false, .int .u64 0, .string ⟨#[]⟩, .int .u64 0, .string ⟨#[]⟩] 56)) = W at *
 have fW : W.heap.size = w.heap.size + 1 + 1 + 1 := hZ.out
 go_cut [15] (fun v wc => v = .bool false /\ Below W.heap.size W wc)
 case first =>
  obtain ⟨aU, aV, aW, aX, aY⟩ := b0.c5; obtain ⟨aP, aQ, aR, aS, aT⟩ := b1.c5
  go_wp2_with fail
  refine (HWA.out _).mono ?_
  rintro e w1 ⟨rfl, j6⟩
  (try clear aU aV aW aX aY); obtain ⟨b0, aU, aV, aW, aX, aY⟩ := b0.zc5 j6; (try clear aP aQ aR aS aT); obtain ⟨b1, aP, aQ, aR, aS, aT⟩ := b1.zc5 j6
  cases wa with
  | true =>
   have bI : wb = false := by simpa using hw
   subst bI
   go_wp2_with fail
   refine (HWB.out _).mono ?_
   rintro e w2 ⟨rfl, bQ⟩
   go_wp2
   go_meet
   exact ⟨rfl, Ja j6 bQ⟩
  | false =>
   go_wp2
   go_meet
   exact ⟨rfl, j6⟩
 case rest =>
  obtain ⟨rfl, bT⟩ := hcut
  rename World => wc
  clear HWA HWB hw
  have b0 := b0.below bT b0.lt
  have b1 := b1.below bT b1.lt
  have b2 := b2.below bT b2.lt
  have tT := tT.next bT
  go_upto_region 3 with fail
  go_cut [5] (fun v wd => Jb6 wc 52 #[.int .u64 (lo G : Int), .string (mo G)] v wd)
  case first =>
   obtain ⟨aU, aV, aW, aX, aY⟩ := b0.c5; have bC := b0.lt; have c0 := b0.drew; have aJ := c0.lt; obtain ⟨aP, aQ, aR, aS, aT⟩ := b1.c5; have aZ := b1.lt; have c1 := b1.drew; have aC := c1.lt; have hc := Jf wc; have tT : Tab wc.drew := tT; go_region_held3 (fun w' => w'.cell? ⟨w.heap.size, 0, none⟩ = some (.bool na) /\ w'.cell? ⟨w.heap.size, 1, none⟩ = some (.int .u64 (lo A : Int)) /\ w'.cell? ⟨w.heap.size, 2, none⟩ = some (.string (mo A)) /\ w'.cell? ⟨w.heap.size, 3, none⟩ = some (.int .u64 (lo ea : Int)) /\ w'.cell? ⟨w.heap.size, 4, none⟩ = some (.string (mo ea)) /\ w'.cell? ⟨w.heap.size + 1, 0, none⟩ = some (.bool nb) /\ w'.cell? ⟨w.heap.size + 1, 1, none⟩ = some (.int .u64 (lo B : Int)) /\ w'.cell? ⟨w.heap.size + 1, 2, none⟩ = some (.string (mo B)) /\ w'.cell? ⟨w.heap.size + 1, 3, none⟩ = some (.int .u64 (lo eb : Int)) /\ w'.cell? ⟨w.heap.size + 1, 4, none⟩ = some (.string (mo eb))) (go_keep) (first | (go_at_call 67; refine (HDA.out _).mono ?_; rintro e w1 ⟨rfl, t7⟩; (try clear t8 x8 x9 y8 y9); obtain ⟨c0, t8, x8, x9, y8, y9⟩ := c0.zc5 t7; (try clear aJ); have aJ := c0.lt; (try clear j8 j9 o0 o5 s9); obtain ⟨c1, j8, j9, o0, o5, s9⟩ := c1.zc5 t7; (try clear aC); have aC := c1.lt; (try have ca := ca.yy t7); (first | have tT := tT.next t7 | have tT := (tT.next (Jb _ _)).next t7 | have tT := (tT.next (Jl _ _ _)).next t7); (first | have hc := Ja hc t7 | (have j6 := Qg hc t7; obtain ⟨ca, j7, hc⟩ := j6) | (have j6 := Qo hc t7; obtain ⟨ca, j7, hc⟩ := j6)); (try have aK := Jo bC j7); (try have aL := Jo aZ j7)) | (go_at_call 74; refine (HFA.out _).mono ?_; rintro e w2 ⟨rfl, aA⟩; (try clear t8 x8 x9 y8 y9); obtain ⟨c0, t8, x8, x9, y8, y9⟩ := c0.zc5 aA; (try clear aJ); have aJ := c0.lt; (try clear j8 j9 o0 o5 s9); obtain ⟨c1, j8, j9, o0, o5, s9⟩ := c1.zc5 aA; (try clear aC); have aC := c1.lt; (try have ca := ca.yy aA); (first | have tT := tT.next aA | have tT := (tT.next (Jb _ _)).next aA | have tT := (tT.next (Jl _ _ _)).next aA); (first | have hc := Ja hc aA | (have j6 := Qg hc aA; obtain ⟨ca, j7, hc⟩ := j6) | (have j6 := Qo hc aA; obtain ⟨ca, j7, hc⟩ := j6)); (try have aK := Jo bC j7); (try have aL := Jo aZ j7)) | (go_at_call 67; refine (HDB.out _).mono ?_; rintro e w3 ⟨rfl, aB⟩; (try clear t8 x8 x9 y8 y9); obtain ⟨c0, t8, x8, x9, y8, y9⟩ := c0.zc5 aB; (try clear aJ); have aJ := c0.lt; (try clear j8 j9 o0 o5 s9); obtain ⟨c1, j8, j9, o0, o5, s9⟩ := c1.zc5 aB; (try clear aC); have aC := c1.lt; (try have ca := ca.yy aB); (first | have tT := tT.next aB | have tT := (tT.next (Jb _ _)).next aB | have tT := (tT.next (Jl _ _ _)).next aB); (first | have hc := Ja hc aB | (have j6 := Qg hc aB; obtain ⟨ca, j7, hc⟩ := j6) | (have j6 := Qo hc aB; obtain ⟨ca, j7, hc⟩ := j6)); (try have aK := Jo bC j7); (try have aL := Jo aZ j7)) | (go_at_call 74; refine (HFB.out _).mono ?_; rintro e w4 ⟨rfl, aF⟩; (try clear t8 x8 x9 y8 y9); obtain ⟨c0, t8, x8, x9, y8, y9⟩ := c0.zc5 aF; (try clear aJ); have aJ := c0.lt; (try clear j8 j9 o0 o5 s9); obtain ⟨c1, j8, j9, o0, o5, s9⟩ := c1.zc5 aF; (try clear aC); have aC := c1.lt; (try have ca := ca.yy aF); (first | have tT := tT.next aF | have tT := (tT.next (Jb _ _)).next aF | have tT := (tT.next (Jl _ _ _)).next aF); (first | have hc := Ja hc aF | (have j6 := Qg hc aF; obtain ⟨ca, j7, hc⟩ := j6) | (have j6 := Qo hc aF; obtain ⟨ca, j7, hc⟩ := j6)); (try have aK := Jo bC j7); (try have aL := Jo aZ j7)) | (go_at_call 79; (first | refine (HGG.out _ tT).mono ?_ | refine (HGG.out _ (tT.next (Jb _ _))).mono ?_ | refine (HGG.out _ (tT.next (Jl _ _ _))).mono ?_); rintro e w5 ⟨rfl, bG⟩; (try clear t8 x8 x9 y8 y9); obtain ⟨c0, t8, x8, x9, y8, y9⟩ := c0.zc5 bG; (try clear aJ); have aJ := c0.lt; (try clear j8 j9 o0 o5 s9); obtain ⟨c1, j8, j9, o0, o5, s9⟩ := c1.zc5 bG; (try clear aC); have aC := c1.lt; (try have ca := ca.yy bG); (first | have hc := Ja hc bG | (have j6 := Qg hc bG; obtain ⟨ca, j7, hc⟩ := j6) | (have j6 := Qo hc bG; obtain ⟨ca, j7, hc⟩ := j6)); (try have aK := Jo bC j7); (try have aL := Jo aZ j7); (try (have dR := ca.lt; obtain ⟨bU, bV, bW, bX, bY, bZ⟩ := ca.f2))))
   all_goals
    go_wp2
    go_meet
    (first | exact Jfs hc ca j7 | exact Jfs (Ja hc (Jb _ _)) (Blk.new _ _ _) hc.size | exact ⟨_, rfl, hc.size, Blk.new _ _ _, Ja hc (Jb _ _)⟩)
  case rest =>
   obtain ⟨g5, rfl, hg, b5, cH⟩ := hcut
   rename World => wd
   have b0 := b0.below cH b0.lt
   have b1 := b1.below cH b1.lt
   have b2 := b2.below cH b2.lt
   have tT := tT.next cH
   have fX := nt bT.size hg
   have dS := Ja bT cH
   clear bT cH hg HFA HFB HGG
   go_upto_region 4 with fail
   go_cut [6, 7] (fun v v' we => Born2 wd 52 #[.int .u64 (lo D : Int), .string (mo D)] 52 #[.int .u64 (lo O : Int), .string (mo O)] v v' we)
   case first =>
    obtain ⟨aU, aV, aW, aX, aY⟩ := b0.c5; have bC := b0.lt; have c0 := b0.drew; have aJ := c0.lt; obtain ⟨aP, aQ, aR, aS, aT⟩ := b1.c5; have aZ := b1.lt; have c1 := b1.drew; have aC := c1.lt; obtain ⟨dT, dU⟩ := b5.c2; have bJ := b5.lt; have c5 := b5.drew; have bH := c5.lt; have hc := Jf wd; go_region_held3 (fun w' => w'.cell? ⟨w.heap.size, 0, none⟩ = some (.bool na) /\ w'.cell? ⟨w.heap.size, 1, none⟩ = some (.int .u64 (lo A : Int)) /\ w'.cell? ⟨w.heap.size, 2, none⟩ = some (.string (mo A)) /\ w'.cell? ⟨w.heap.size, 3, none⟩ = some (.int .u64 (lo ea : Int)) /\ w'.cell? ⟨w.heap.size, 4, none⟩ = some (.string (mo ea)) /\ w'.cell? ⟨w.heap.size + 1, 0, none⟩ = some (.bool nb) /\ w'.cell? ⟨w.heap.size + 1, 1, none⟩ = some (.int .u64 (lo B : Int)) /\ w'.cell? ⟨w.heap.size + 1, 2, none⟩ = some (.string (mo B)) /\ w'.cell? ⟨w.heap.size + 1, 3, none⟩ = some (.int .u64 (lo eb : Int)) /\ w'.cell? ⟨w.heap.size + 1, 4, none⟩ = some (.string (mo eb)) /\ w'.cell? ⟨g5, 0, none⟩ = some (.int .u64 (lo G : Int)) /\ w'.cell? ⟨g5, 1, none⟩ = some (.string (mo G))) (go_keep) (first | (go_at_call 67; refine (HDA.out _).mono ?_; rintro e w1 ⟨rfl, t7⟩; (try clear t8 x8 x9 y8 y9); obtain ⟨c0, t8, x8, x9, y8, y9⟩ := c0.zc5 t7; (try clear aJ); have aJ := c0.lt; (try clear j8 j9 o0 o5 s9); obtain ⟨c1, j8, j9, o0, o5, s9⟩ := c1.zc5 t7; (try clear aC); have aC := c1.lt; (try clear aM aN); obtain ⟨c5, aM, aN⟩ := c5.zc2 t7; (try clear bH); have bH := c5.lt; (try have cA := ca.lt); (try have ca := ca.yy t7); (try (first | have cd := cd.below t7 cd.lt | have cd := (cd.alloc _).below t7 (cd.alloc _).lt)); (first | have hc := Ja hc t7 | (have bE := cA; have j6 := Qo hc t7; obtain ⟨cd, aO, hc⟩ := j6) | (have j6 := Qg hc t7; obtain ⟨ca, j7, hc⟩ := j6) | (have j6 := Qo hc t7; obtain ⟨ca, j7, hc⟩ := j6) | (have j6 := Jdb hc t7; obtain ⟨ca, j7, cd, aO, bE, hc⟩ := j6) | (have j6 := Jfb hc t7; obtain ⟨ca, j7, cd, aO, bE, hc⟩ := j6)); (try have aK := Jo bC j7); (try have c0nc := Jo bC aO); (try have aL := Jo aZ j7); (try have c1nc := Jo aZ aO); (try have bK := Jo bJ j7); (try have c5nc := Jo bJ aO); (try have dV := Jo bE zd)) | (go_at_call 82; refine (HOA.out _).mono ?_; rintro e w2 ⟨rfl, aA⟩; (try clear t8 x8 x9 y8 y9); obtain ⟨c0, t8, x8, x9, y8, y9⟩ := c0.zc5 aA; (try clear aJ); have aJ := c0.lt; (try clear j8 j9 o0 o5 s9); obtain ⟨c1, j8, j9, o0, o5, s9⟩ := c1.zc5 aA; (try clear aC); have aC := c1.lt; (try clear aM aN); obtain ⟨c5, aM, aN⟩ := c5.zc2 aA; (try clear bH); have bH := c5.lt; (try have cA := ca.lt); (try have ca := ca.yy aA); (try (first | have cd := cd.below aA cd.lt | have cd := (cd.alloc _).below aA (cd.alloc _).lt)); (first | have hc := Ja hc aA | (have bE := cA; have j6 := Qo hc aA; obtain ⟨cd, aO, hc⟩ := j6) | (have j6 := Qg hc aA; obtain ⟨ca, j7, hc⟩ := j6) | (have j6 := Qo hc aA; obtain ⟨ca, j7, hc⟩ := j6) | (have j6 := Jdb hc aA; obtain ⟨ca, j7, cd, aO, bE, hc⟩ := j6) | (have j6 := Jfb hc aA; obtain ⟨ca, j7, cd, aO, bE, hc⟩ := j6)); (try have aK := Jo bC j7); (try have c0nc := Jo bC aO); (try have aL := Jo aZ j7); (try have c1nc := Jo aZ aO); (try have bK := Jo bJ j7); (try have c5nc := Jo bJ aO); (try have dV := Jo bE zd)) | (go_at_call 67; refine (HDB.out _).mono ?_; rintro e w3 ⟨rfl, aB⟩; (try clear t8 x8 x9 y8 y9); obtain ⟨c0, t8, x8, x9, y8, y9⟩ := c0.zc5 aB; (try clear aJ); have aJ := c0.lt; (try clear j8 j9 o0 o5 s9); obtain ⟨c1, j8, j9, o0, o5, s9⟩ := c1.zc5 aB; (try clear aC); have aC := c1.lt; (try clear aM aN); obtain ⟨c5, aM, aN⟩ := c5.zc2 aB; (try clear bH); have bH := c5.lt; (try have cA := ca.lt); (try have ca := ca.yy aB); (try (first | have cd := cd.below aB cd.lt | have cd := (cd.alloc _).below aB (cd.alloc _).lt)); (first | have hc := Ja hc aB | (have bE := cA; have j6 := Qo hc aB; obtain ⟨cd, aO, hc⟩ := j6) | (have j6 := Qg hc aB; obtain ⟨ca, j7, hc⟩ := j6) | (have j6 := Qo hc aB; obtain ⟨ca, j7, hc⟩ := j6) | (have j6 := Jdb hc aB; obtain ⟨ca, j7, cd, aO, bE, hc⟩ := j6) | (have j6 := Jfb hc aB; obtain ⟨ca, j7, cd, aO, bE, hc⟩ := j6)); (try have aK := Jo bC j7); (try have c0nc := Jo bC aO); (try have aL := Jo aZ j7); (try have c1nc := Jo aZ aO); (try have bK := Jo bJ j7); (try have c5nc := Jo bJ aO); (try have dV := Jo bE zd)) | (go_at_call 82; refine (HOB.out _).mono ?_; rintro e w4 ⟨rfl, aF⟩; (try clear t8 x8 x9 y8 y9); obtain ⟨c0, t8, x8, x9, y8, y9⟩ := c0.zc5 aF; (try clear aJ); have aJ := c0.lt; (try clear j8 j9 o0 o5 s9); obtain ⟨c1, j8, j9, o0, o5, s9⟩ := c1.zc5 aF; (try clear aC); have aC := c1.lt; (try clear aM aN); obtain ⟨c5, aM, aN⟩ := c5.zc2 aF; (try clear bH); have bH := c5.lt; (try have cA := ca.lt); (try have ca := ca.yy aF); (try (first | have cd := cd.below aF cd.lt | have cd := (cd.alloc _).below aF (cd.alloc _).lt)); (first | have hc := Ja hc aF | (have bE := cA; have j6 := Qo hc aF; obtain ⟨cd, aO, hc⟩ := j6) | (have j6 := Qg hc aF; obtain ⟨ca, j7, hc⟩ := j6) | (have j6 := Qo hc aF; obtain ⟨ca, j7, hc⟩ := j6) | (have j6 := Jdb hc aF; obtain ⟨ca, j7, cd, aO, bE, hc⟩ := j6) | (have j6 := Jfb hc aF; obtain ⟨ca, j7, cd, aO, bE, hc⟩ := j6)); (try have aK := Jo bC j7); (try have c0nc := Jo bC aO); (try have aL := Jo aZ j7); (try have c1nc := Jo aZ aO); (try have bK := Jo bJ j7); (try have c5nc := Jo bJ aO); (try have dV := Jo bE zd); (try (have dR := ca.lt; obtain ⟨bU, bV, bW, bX, bY, bZ⟩ := ca.f2)); (try (have fY := cd.lt; obtain ⟨eT, eU, eV, eX, eY, eZ⟩ := cd.f2))))
    all_goals
     go_wp2
     go_meet
     (have fZ := hc.size; first | with_reducible exact Jsc hc | with_reducible exact Jru hc | with_reducible exact Js5 hc ca j7 | with_reducible exact Js4 hc ca j7 | (with_reducible refine Jrv hc ca cd ?_ ?_ ?_) <;> omega | (with_reducible refine Jrv hc cd ca ?_ ?_ ?_) <;> omega)
   case rest =>
    obtain ⟨g6, g7, rfl, rfl, fA, h6, h7, b6, b7, cB⟩ := hcut
    rename World => we
    have b0 := b0.below cB b0.lt
    have b1 := b1.below cB b1.lt
    have b2 := b2.below cB b2.lt
    have b5 := b5.below cB b5.lt
    have tT := tT.next cB
    have fB := nt dS.size h6
    have dW := Ja dS cB
    clear dS cB h6 h7 HDA HOA HOB fA
    go_upto_region 5 with fail
    go_cut [8] (fun v wf => Jb6 we 54 #[.bool nu, .int .u64 (lo V : Int), .string (mo V)] v wf)
    case first =>
     obtain ⟨aU, aV, aW, aX, aY⟩ := b0.c5; have bC := b0.lt; have c0 := b0.drew; have aJ := c0.lt; obtain ⟨aP, aQ, aR, aS, aT⟩ := b1.c5; have aZ := b1.lt; have c1 := b1.drew; have aC := c1.lt; obtain ⟨dX, dY⟩ := b6.c2; have dF := b6.lt; have c6 := b6.drew; have bD := c6.lt; obtain ⟨fC, fD⟩ := b7.c2; have dZ := b7.lt; have c7 := b7.drew; have cI := c7.lt; have hc := Jf we; go_region_held3 (fun w' => w'.cell? ⟨w.heap.size, 0, none⟩ = some (.bool na) /\ w'.cell? ⟨w.heap.size, 1, none⟩ = some (.int .u64 (lo A : Int)) /\ w'.cell? ⟨w.heap.size, 2, none⟩ = some (.string (mo A)) /\ w'.cell? ⟨w.heap.size, 3, none⟩ = some (.int .u64 (lo ea : Int)) /\ w'.cell? ⟨w.heap.size, 4, none⟩ = some (.string (mo ea)) /\ w'.cell? ⟨w.heap.size + 1, 0, none⟩ = some (.bool nb) /\ w'.cell? ⟨w.heap.size + 1, 1, none⟩ = some (.int .u64 (lo B : Int)) /\ w'.cell? ⟨w.heap.size + 1, 2, none⟩ = some (.string (mo B)) /\ w'.cell? ⟨w.heap.size + 1, 3, none⟩ = some (.int .u64 (lo eb : Int)) /\ w'.cell? ⟨w.heap.size + 1, 4, none⟩ = some (.string (mo eb)) /\ w'.cell? ⟨g6, 0, none⟩ = some (.int .u64 (lo D : Int)) /\ w'.cell? ⟨g6, 1, none⟩ = some (.string (mo D)) /\ w'.cell? ⟨g7, 0, none⟩ = some (.int .u64 (lo O : Int)) /\ w'.cell? ⟨g7, 1, none⟩ = some (.string (mo O))) (go_keep) (first | (go_at_call 66; refine (HTA.out _).mono ?_; rintro e w1 ⟨rfl, t7⟩; (try clear t8 x8 x9 y8 y9); obtain ⟨c0, t8, x8, x9, y8, y9⟩ := c0.zc5 t7; (try clear aJ); have aJ := c0.lt; (try clear j8 j9 o0 o5 s9); obtain ⟨c1, j8, j9, o0, o5, s9⟩ := c1.zc5 t7; (try clear aC); have aC := c1.lt; (try clear aD aE); obtain ⟨c6, aD, aE⟩ := c6.zc2 t7; (try clear bD); have bD := c6.lt; (try clear bL bM); obtain ⟨c7, bL, bM⟩ := c7.zc2 t7; (try clear cI); have cI := c7.lt; (try have ca := ca.yy t7); (first | have hc := Ja hc t7 | (have j6 := Qg hc t7; obtain ⟨ca, j7, hc⟩ := j6) | (have j6 := Qo hc t7; obtain ⟨ca, j7, hc⟩ := j6)); (try have aK := Jo bC j7); (try have aL := Jo aZ j7); (try have cR := Jo dF j7); (try have cS := Jo dZ j7)) | (go_at_call 66; refine (HTB.out _).mono ?_; rintro e w2 ⟨rfl, aA⟩; (try clear t8 x8 x9 y8 y9); obtain ⟨c0, t8, x8, x9, y8, y9⟩ := c0.zc5 aA; (try clear aJ); have aJ := c0.lt; (try clear j8 j9 o0 o5 s9); obtain ⟨c1, j8, j9, o0, o5, s9⟩ := c1.zc5 aA; (try clear aC); have aC := c1.lt; (try clear aD aE); obtain ⟨c6, aD, aE⟩ := c6.zc2 aA; (try clear bD); have bD := c6.lt; (try clear bL bM); obtain ⟨c7, bL, bM⟩ := c7.zc2 aA; (try clear cI); have cI := c7.lt; (try have ca := ca.yy aA); (first | have hc := Ja hc aA | (have j6 := Qg hc aA; obtain ⟨ca, j7, hc⟩ := j6) | (have j6 := Qo hc aA; obtain ⟨ca, j7, hc⟩ := j6)); (try have aK := Jo bC j7); (try have aL := Jo aZ j7); (try have cR := Jo dF j7); (try have cS := Jo dZ j7)) | (go_at_call 156; refine (HUP.out _).mono ?_; rintro e w3 ⟨rfl, aB⟩; (try clear t8 x8 x9 y8 y9); obtain ⟨c0, t8, x8, x9, y8, y9⟩ := c0.zc5 aB; (try clear aJ); have aJ := c0.lt; (try clear j8 j9 o0 o5 s9); obtain ⟨c1, j8, j9, o0, o5, s9⟩ := c1.zc5 aB; (try clear aC); have aC := c1.lt; (try clear aD aE); obtain ⟨c6, aD, aE⟩ := c6.zc2 aB; (try clear bD); have bD := c6.lt; (try clear bL bM); obtain ⟨c7, bL, bM⟩ := c7.zc2 aB; (try clear cI); have cI := c7.lt; (try have ca := ca.yy aB); (first | have hc := Ja hc aB | (have j6 := Qg hc aB; obtain ⟨ca, j7, hc⟩ := j6) | (have j6 := Qo hc aB; obtain ⟨ca, j7, hc⟩ := j6)); (try have aK := Jo bC j7); (try have aL := Jo aZ j7); (try have cR := Jo dF j7); (try have cS := Jo dZ j7); (try (have dR := ca.lt; obtain ⟨bU, bV, fE, bW, bX, fF, bY, bZ, fG⟩ := ca.f3))))
     all_goals
      go_wp2
      go_meet
      (first | exact Js8 hc ca j7 | exact Js8 (Ja hc (Jb _ _)) (Blk.new _ _ _) hc.size | exact ⟨_, rfl, hc.size, Blk.new _ _ _, Ja hc (Jb _ _)⟩)
    case rest =>
     obtain ⟨g8, rfl, hg, b8, cC⟩ := hcut
     rename World => wf
     have b1 := b1.below cC b1.lt
     have b2 := b2.below cC b2.lt
     have b5 := b5.below cC b5.lt
     have b6 := b6.below cC b6.lt
     have tT := tT.next cC
     have fH := nt dW.size hg
     have eA := Ja dW cC
     clear dW cC hg HTA HTB HUP b0 b7
     go_upto_region 6 with fail
     go_cut [9] (fun v wh => Jb6 wf 52 #[.int .u64 (lo H : Int), .string (mo H)] v wh)
     case first =>
      obtain ⟨eB, eC, eD⟩ := b8.c3; have eE := b8.lt; have c8 := b8.drew; have bF := c8.lt; obtain ⟨dT, dU⟩ := b5.c2; have bJ := b5.lt; have c5 := b5.drew; have bH := c5.lt; have hc := Jf wf; have tT : Tab wf.drew := tT; go_region_held3 (fun w' => w'.cell? ⟨g8, 0, none⟩ = some (.bool nu) /\ w'.cell? ⟨g8, 1, none⟩ = some (.int .u64 (lo V : Int)) /\ w'.cell? ⟨g8, 2, none⟩ = some (.string (mo V)) /\ w'.cell? ⟨g5, 0, none⟩ = some (.int .u64 (lo G : Int)) /\ w'.cell? ⟨g5, 1, none⟩ = some (.string (mo G))) (go_keep) (first | (go_at_call 74; refine (HFG.out _).mono ?_; rintro e w1 ⟨rfl, t7⟩; (try clear aG aH aI); obtain ⟨c8, aG, aH, aI⟩ := c8.zc3 t7; (try clear bF); have bF := c8.lt; (try clear aM aN); obtain ⟨c5, aM, aN⟩ := c5.zc2 t7; (try clear bH); have bH := c5.lt; (try have ca := ca.yy t7); (first | have tT := tT.next t7 | have tT := (tT.next (Jb _ _)).next t7 | have tT := (tT.next (Jl _ _ _)).next t7); (first | have hc := Ja hc t7 | (have j6 := Qg hc t7; obtain ⟨ca, j7, hc⟩ := j6) | (have j6 := Qo hc t7; obtain ⟨ca, j7, hc⟩ := j6)); (try have eF := Jo eE j7); (try have bK := Jo bJ j7)) | (go_at_call 79; (first | refine (HGH.out _ tT).mono ?_ | refine (HGH.out _ (tT.next (Jb _ _))).mono ?_ | refine (HGH.out _ (tT.next (Jl _ _ _))).mono ?_); rintro e w2 ⟨rfl, aA⟩; (try clear aG aH aI); obtain ⟨c8, aG, aH, aI⟩ := c8.zc3 aA; (try clear bF); have bF := c8.lt; (try clear aM aN); obtain ⟨c5, aM, aN⟩ := c5.zc2 aA; (try clear bH); have bH := c5.lt; (try have ca := ca.yy aA); (first | have hc := Ja hc aA | (have j6 := Qg hc aA; obtain ⟨ca, j7, hc⟩ := j6) | (have j6 := Qo hc aA; obtain ⟨ca, j7, hc⟩ := j6)); (try have eF := Jo eE j7); (try have bK := Jo bJ j7); (try (have dR := ca.lt; obtain ⟨bU, bV, bW, bX, bY, bZ⟩ := ca.f2))))
      all_goals
       go_wp2
       go_meet
       (first | exact Jfs hc ca j7 | exact Jfs (Ja hc (Jb _ _)) (Blk.new _ _ _) hc.size | exact ⟨_, rfl, hc.size, Blk.new _ _ _, Ja hc (Jb _ _)⟩)
     case rest =>
      obtain ⟨g9, rfl, hg, b9, cJ⟩ := hcut
      rename World => wh
      have b1 := b1.below cJ b1.lt
      have b2 := b2.below cJ b2.lt
      have b6 := b6.below cJ b6.lt
      have b8 := b8.below cJ b8.lt
      have fI := nt eA.size hg
      have fJ := Ja hB (Ja eA cJ)
      clear eA cJ hg HFG HGH tT b5
      have n1 := Jo (show w.heap.size + 1 < w.heap.size + 1 + 1 by omega) zd
      have n2 := Jo (show w.heap.size + 1 + 1 < W.heap.size by omega) fB
      have n3 := Jo (show w.heap.size + 1 + 1 < W.heap.size by omega) fH
      have n4 := Jo (show w.heap.size + 1 + 1 < W.heap.size by omega) fI
      go_upto_region 7 with fail
      obtain ⟨aP, aQ, aR, aS, aT⟩ := b1.c5; have aZ := b1.lt; have c1 := b1.drew; have aC := c1.lt; obtain ⟨dX, dY⟩ := b6.c2; have dF := b6.lt; have c6 := b6.drew; have bD := c6.lt; obtain ⟨eB, eC, eD⟩ := b8.c3; have eE := b8.lt; have c8 := b8.drew; have bF := c8.lt; obtain ⟨fK, fL⟩ := b9.c2; have gA := b9.lt; have c9 := b9.drew; have bO := c9.lt; have c2 := b2.drew; have bP := c2.lt; have hc := Jf wh; go_region_held3 (fun w' => w'.cell? ⟨w.heap.size + 1, 0, none⟩ = some (.bool nb) /\ w'.cell? ⟨w.heap.size + 1, 1, none⟩ = some (.int .u64 (lo B : Int)) /\ w'.cell? ⟨w.heap.size + 1, 2, none⟩ = some (.string (mo B)) /\ w'.cell? ⟨w.heap.size + 1, 3, none⟩ = some (.int .u64 (lo eb : Int)) /\ w'.cell? ⟨w.heap.size + 1, 4, none⟩ = some (.string (mo eb)) /\ w'.cell? ⟨g6, 0, none⟩ = some (.int .u64 (lo D : Int)) /\ w'.cell? ⟨g6, 1, none⟩ = some (.string (mo D)) /\ w'.cell? ⟨g8, 0, none⟩ = some (.bool nu) /\ w'.cell? ⟨g8, 1, none⟩ = some (.int .u64 (lo V : Int)) /\ w'.cell? ⟨g8, 2, none⟩ = some (.string (mo V)) /\ w'.cell? ⟨g9, 0, none⟩ = some (.int .u64 (lo H : Int)) /\ w'.cell? ⟨g9, 1, none⟩ = some (.string (mo H))) (go_keep) (first | (go_at_call 81; refine (HPA.out _).mono ?_; rintro e w1 ⟨rfl, t7⟩; (try clear j8 j9 o0 o5 s9); obtain ⟨c1, j8, j9, o0, o5, s9⟩ := c1.zc5 t7; (try clear aC); have aC := c1.lt; (try clear aD aE); obtain ⟨c6, aD, aE⟩ := c6.zc2 t7; (try clear bD); have bD := c6.lt; (try clear aG aH aI); obtain ⟨c8, aG, aH, aI⟩ := c8.zc3 t7; (try clear bF); have bF := c8.lt; (try clear bA bB); obtain ⟨c9, bA, bB⟩ := c9.zc2 t7; (try clear bO); have bO := c9.lt; have c2 := c2.yy t7; (try clear bP); have bP := c2.lt; have hc := Ja hc t7) | (go_at_call 67; refine (HDB.out _).mono ?_; rintro e w2 ⟨rfl, aA⟩; (try clear j8 j9 o0 o5 s9); obtain ⟨c1, j8, j9, o0, o5, s9⟩ := c1.zc5 aA; (try clear aC); have aC := c1.lt; (try clear aD aE); obtain ⟨c6, aD, aE⟩ := c6.zc2 aA; (try clear bD); have bD := c6.lt; (try clear aG aH aI); obtain ⟨c8, aG, aH, aI⟩ := c8.zc3 aA; (try clear bF); have bF := c8.lt; (try clear bA bB); obtain ⟨c9, bA, bB⟩ := c9.zc2 aA; (try clear bO); have bO := c9.lt; have c2 := c2.yy aA; (try clear bP); have bP := c2.lt; have hc := Ja hc aA) | (go_at_call 82; refine (HOH.out _).mono ?_; rintro e w3 ⟨rfl, aB⟩; (try clear j8 j9 o0 o5 s9); obtain ⟨c1, j8, j9, o0, o5, s9⟩ := c1.zc5 aB; (try clear aC); have aC := c1.lt; (try clear aD aE); obtain ⟨c6, aD, aE⟩ := c6.zc2 aB; (try clear bD); have bD := c6.lt; (try clear aG aH aI); obtain ⟨c8, aG, aH, aI⟩ := c8.zc3 aB; (try clear bF); have bF := c8.lt; (try clear bA bB); obtain ⟨c9, bA, bB⟩ := c9.zc2 aB; (try clear bO); have bO := c9.lt; have c2 := c2.yy aB; (try clear bP); have bP := c2.lt; have hc := Ja hc aB) | (go_at_call 83; refine (HM2.out _).mono ?_; rintro e w4 ⟨rfl, aF⟩; (try clear j8 j9 o0 o5 s9); obtain ⟨c1, j8, j9, o0, o5, s9⟩ := c1.zc5 aF; (try clear aC); have aC := c1.lt; (try clear aD aE); obtain ⟨c6, aD, aE⟩ := c6.zc2 aF; (try clear bD); have bD := c6.lt; (try clear aG aH aI); obtain ⟨c8, aG, aH, aI⟩ := c8.zc3 aF; (try clear bF); have bF := c8.lt; (try clear bA bB); obtain ⟨c9, bA, bB⟩ := c9.zc2 aF; (try clear bO); have bO := c9.lt; have c2 := c2.yy aF; (try clear bP); have bP := c2.lt; have hc := Ja hc aF) | (go_at_call 80; refine (HPK.out _).mono ?_; rintro e w5 ⟨rfl, bG⟩; (try clear j8 j9 o0 o5 s9); obtain ⟨c1, j8, j9, o0, o5, s9⟩ := c1.zc5 bG; (try clear aC); have aC := c1.lt; (try clear aD aE); obtain ⟨c6, aD, aE⟩ := c6.zc2 bG; (try clear bD); have bD := c6.lt; (try clear aG aH aI); obtain ⟨c8, aG, aH, aI⟩ := c8.zc3 bG; (try clear bF); have bF := c8.lt; (try clear bA bB); obtain ⟨c9, bA, bB⟩ := c9.zc2 bG; (try clear bO); have bO := c9.lt; have c2 := c2.yy bG; (try clear bP); have bP := c2.lt; have hc := Ja hc bG; obtain ⟨fM, fN, fO, fP, fQ, fR, fS, fT, fU, fV, eG, eH, eI, eJ, eK⟩ := c2.f5))
      all_goals
       go_wp2
       refine bodyPost_ret (v := .agg #[.bool nq, .int .u64 (lo Q : Int), .string (mo Q), .int .u64 (lo eq : Int), .string (mo eq)]) (by simp [results, Tryz.results124, go_sem, eG, eH, eI, eJ, eK]) rfl ?_
       exact ⟨rfl, Qy (Ja fJ hc) (by omega) _ _ _ _ _⟩
theorem Jez (a b : Rat) (w : World) (ha : QS 137438953472 a) (hb : QS 137438953472 b) (hT : Tab w) :
  Calls Tryz.prog 124 #[qV a, qV b] w (Ret (qV (a + b)) w) := by
 by_cases h1 : a.den = 1
 ·by_cases h2 : b.den = 1
  ·exact Jn1 a b w ha hb h1 h2
  exact Jgi a b w ha hb (by simp [h2]) hT
 exact Jgi a b w ha hb (by simp [h1]) hT
