import Derived.Test.YtecnjlcfoobepaaGreatDoorFracBase
import Derived.Test.YtecnjlcfoobepaaGreatDoorGcdE
namespace Go.Proofs.YtecnjlcfoobepaaGreatDoor
set_option maxRecDepth 100000
set_option maxHeartbeats 1000000
open Go.RowKit
set_option linter.all false
theorem Jdm (n : Int) (d : Nat) (w : World) (hn : Je n.natAbs <= 549755813888) (hd : Je d <= 549755813888) (aO : d ≠ 0) (hT : Tab w) :
  Calls Tryz.prog 109 #[Qa n, Jj d] w (Ret (qV (mkRat n d)) w) := by
 have aS := fun w => Qh false d w (by omega)
 have e : signed false d = (d : Int) := rfl
 rw [e] at aS
 clear e
 have aT := fun w (hT : Tab w) => Uu n d w hn (by rw [Int.natAbs_natCast]; exact hd) hT
 rw [Int.natAbs_natCast] at aT
 have cA := Nat.gcd_dvd_left n.natAbs d
 have cQ := Nat.gcd_dvd_right n.natAbs d
 have cB : Nat.gcd n.natAbs d ≠ 0 := fun h => aO (Nat.gcd_eq_zero_iff.1 h).2
 have cC : (mkRat n d).num = n / (Nat.gcd n.natAbs d : Nat) := by rw [Rat.num_mkRat, if_neg aO, Nat.gcd_comm]
 have cD : (mkRat n d).den = d / Nat.gcd n.natAbs d := by rw [Rat.den_mkRat, if_neg aO, Nat.gcd_comm]
 have cR : QS 1099511627776 (mkRat n d) := ⟨by rw [cC]; exact nt (Jbk cA) (by omega), by rw [cD]; exact nt (Zn _ _) (by omega)⟩
 have dH : Je (Nat.gcd n.natAbs d) <= 549755813888 := nt (Qb (Nat.le_of_dvd (by omega) cQ)) hd
 generalize Nat.gcd n.natAbs d = G at *
 generalize mkRat n d = q at *
 have aW := fun w => Jbg n G w (by omega) (by omega) cB cA
 have bX := fun w => Yt d G w (by omega) (by omega) cB
 have aX := fun w => Jbh q w cR
 rw [<- cC] at aW
 rw [<- cD] at bX
 clear cC cD cA cQ cB cR
 unfold Jj at aS aT aW bX aX ⊢
 unfold Qa at aS aT aW aX ⊢
 unfold qV at aX ⊢
 rw [Int.natAbs_natCast] at aS aT
 generalize decide (n < 0) = ng at *
 generalize decide (q.num < 0) = nq at *
 generalize decide ((d : Int) < 0) = nd at *
 have HFR := lh aS
 have HGC := lh aT
 have HPA := lh aW
 have HOV := lh bX
 have HPK := lh aX
 clear aS aT aW bX aX
 obtain ⟨b0, b1, b2, hB, hZ⟩ := bx3 w 54 #[.bool ng, .int .u64 (lo n.natAbs : Int), .string (mo n.natAbs)] 52 #[.int .u64 (lo d : Int), .string (mo d)] 56 #[.bool false, .int .u64 0, .string ⟨#[]⟩, .int .u64 0, .string ⟨#[]⟩]
 have tT := hT.next hB
 go_enter Tryz.func109, Tryz.ntmps109
 go_upto_region 1 with fail
 generalize (((w.alloc (.cells #[.bool ng, .int .u64 (lo n.natAbs : Int), .string (mo n.natAbs)] 54)).alloc (.cells #[.int .u64 (lo d : Int), .string (mo d)] 52)).alloc (.cells #[.bool false, .int .u64 0, .string ⟨#[]⟩, .int .u64 0, .string ⟨#[]⟩] 56)) = W at *
 go_cut [5] (fun v5 wc => Jb6 W 52 #[.int .u64 (lo G : Int), .string (mo G)] v5 wc)
 case first =>
  obtain ⟨s9, t7, t8⟩ := b0.c3; have aY := b0.lt; have c0 := b0.drew; have y8 := c0.lt; obtain ⟨aA, aB⟩ := b1.c2; have aZ := b1.lt; have c1 := b1.drew; have y9 := c1.lt; have hc := Jf W; have tT : Tab W.drew := tT; go_region_held3 (fun w' => w'.cell? ⟨w.heap.size, 0, none⟩ = some (.bool ng) /\ w'.cell? ⟨w.heap.size, 1, none⟩ = some (.int .u64 (lo n.natAbs : Int)) /\ w'.cell? ⟨w.heap.size, 2, none⟩ = some (.string (mo n.natAbs)) /\ w'.cell? ⟨w.heap.size + 1, 0, none⟩ = some (.int .u64 (lo d : Int)) /\ w'.cell? ⟨w.heap.size + 1, 1, none⟩ = some (.string (mo d))) (go_keep) (first | (go_at_call 74; refine (HFR.out _).mono ?_; rintro e w1 ⟨rfl, o5⟩; (try clear j6 j7 j8); obtain ⟨c0, j6, j7, j8⟩ := c0.zc3 o5; (try clear y8); have y8 := c0.lt; (try clear j9 o0); obtain ⟨c1, j9, o0⟩ := c1.zc2 o5; (try clear y9); have y9 := c1.lt; (try have ca := ca.yy o5); (first | have tT := tT.next o5 | have tT := (tT.next (Jb _ _)).next o5 | have tT := (tT.next (Jl _ _ _)).next o5); (first | have hc := Ja hc o5 | (have x8 := Qg hc o5; obtain ⟨ca, aR, hc⟩ := x8) | (have x8 := Qo hc o5; obtain ⟨ca, aR, hc⟩ := x8)); (try have cE := Jo aY aR); (try have cF := Jo aZ aR)) | (go_at_call 79; (first | refine (HGC.out _ tT).mono ?_ | refine (HGC.out _ (tT.next (Jb _ _))).mono ?_ | refine (HGC.out _ (tT.next (Jl _ _ _))).mono ?_); rintro e w2 ⟨rfl, x9⟩; (try clear j6 j7 j8); obtain ⟨c0, j6, j7, j8⟩ := c0.zc3 x9; (try clear y8); have y8 := c0.lt; (try clear j9 o0); obtain ⟨c1, j9, o0⟩ := c1.zc2 x9; (try clear y9); have y9 := c1.lt; (try have ca := ca.yy x9); (first | have hc := Ja hc x9 | (have x8 := Qg hc x9; obtain ⟨ca, aR, hc⟩ := x8) | (have x8 := Qo hc x9; obtain ⟨ca, aR, hc⟩ := x8)); (try have cE := Jo aY aR); (try have cF := Jo aZ aR); (try (have dI := ca.lt; obtain ⟨cU, cV, cZ, dA, dB, dC⟩ := ca.f2))))
  all_goals
   go_wp2
   go_meet
   (first | exact Jfs hc ca aR | exact Jfs (Ja hc (Jb _ _)) (Blk.new _ _ _) hc.size | exact ⟨_, rfl, hc.size, Blk.new _ _ _, Ja hc (Jb _ _)⟩)
 case rest =>
  obtain ⟨g, rfl, dJ, b5, bA⟩ := hcut
  clear HFR HGC
  have dD : W.heap.size = w.heap.size + 1 + 1 + 1 := hZ.out
  have b0 := b0.below bA b0.lt
  have b1 := b1.below bA b1.lt
  have b2 := b2.below bA b2.lt
  have aP := Ja hB bA
  have ne0 : ¬ g = w.heap.size + 1 + 1 := by omega
  have ne1 : ¬ w.heap.size + 1 + 1 = g := by omega
  have ne2 := neA w.heap.size
  have ne3 := neB w.heap.size
  have ne4 := neC w.heap.size
  have ne5 := neD w.heap.size
  clear bA hB dD hZ tT hT
  rename_i wc
  go_wp2_with fail
  obtain ⟨s9, t7, t8⟩ := b0.c3; have aY := b0.lt; have c0 := b0.drew; have y8 := c0.lt; obtain ⟨aA, aB⟩ := b1.c2; have aZ := b1.lt; have c1 := b1.drew; have y9 := c1.lt; obtain ⟨dE, dF⟩ := b5.c2; have dK := b5.lt; have c5 := b5.drew; have aU := c5.lt; have c2 := b2.drew; have aC := c2.lt; have hc := Jf wc; go_region_held3 (fun w' => w'.cell? ⟨w.heap.size, 0, none⟩ = some (.bool ng) /\ w'.cell? ⟨w.heap.size, 1, none⟩ = some (.int .u64 (lo n.natAbs : Int)) /\ w'.cell? ⟨w.heap.size, 2, none⟩ = some (.string (mo n.natAbs)) /\ w'.cell? ⟨w.heap.size + 1, 0, none⟩ = some (.int .u64 (lo d : Int)) /\ w'.cell? ⟨w.heap.size + 1, 1, none⟩ = some (.string (mo d)) /\ w'.cell? ⟨g, 0, none⟩ = some (.int .u64 (lo G : Int)) /\ w'.cell? ⟨g, 1, none⟩ = some (.string (mo G))) (go_keep) (first | (go_at_call 81; refine (HPA.out _).mono ?_; rintro e w1 ⟨rfl, o5⟩; (try clear j6 j7 j8); obtain ⟨c0, j6, j7, j8⟩ := c0.zc3 o5; (try clear y8); have y8 := c0.lt; (try clear j9 o0); obtain ⟨c1, j9, o0⟩ := c1.zc2 o5; (try clear y9); have y9 := c1.lt; (try clear aH aI); obtain ⟨c5, aH, aI⟩ := c5.zc2 o5; (try clear aU); have aU := c5.lt; have c2 := c2.yy o5; (try clear aC); have aC := c2.lt; have hc := Ja hc o5) | (go_at_call 82; refine (HOV.out _).mono ?_; rintro e w2 ⟨rfl, x9⟩; (try clear j6 j7 j8); obtain ⟨c0, j6, j7, j8⟩ := c0.zc3 x9; (try clear y8); have y8 := c0.lt; (try clear j9 o0); obtain ⟨c1, j9, o0⟩ := c1.zc2 x9; (try clear y9); have y9 := c1.lt; (try clear aH aI); obtain ⟨c5, aH, aI⟩ := c5.zc2 x9; (try clear aU); have aU := c5.lt; have c2 := c2.yy x9; (try clear aC); have aC := c2.lt; have hc := Ja hc x9) | (go_at_call 80; refine (HPK.out _).mono ?_; rintro e w3 ⟨rfl, bB⟩; (try clear j6 j7 j8); obtain ⟨c0, j6, j7, j8⟩ := c0.zc3 bB; (try clear y8); have y8 := c0.lt; (try clear j9 o0); obtain ⟨c1, j9, o0⟩ := c1.zc2 bB; (try clear y9); have y9 := c1.lt; (try clear aH aI); obtain ⟨c5, aH, aI⟩ := c5.zc2 bB; (try clear aU); have aU := c5.lt; have c2 := c2.yy bB; (try clear aC); have aC := c2.lt; have hc := Ja hc bB; obtain ⟨bC, bD, bE, bF, bG, bH, bI, bJ, bK, bL, aJ, aK, aL, aM, aN⟩ := c2.f5))
  all_goals
   go_wp2
   refine bodyPost_ret (v := .agg #[.bool nq, .int .u64 (lo q.num.natAbs : Int), .string (mo q.num.natAbs), .int .u64 (lo (qden q) : Int), .string (mo (qden q))]) (by simp [results, Tryz.results109, go_sem, aJ, aK, aL, aM, aN]) rfl ?_
   exact ⟨rfl, Qy (Ja aP hc) (by omega) _ _ _ _ _⟩
theorem Jlo (n d : Int) (h : d < 0) : Rat.divInt n d = mkRat (-n) d.natAbs := by
 cases d with
 | ofNat d => exact absurd h (by simp)
 | negSucc d =>
  show Rat.normalize (-n) (d + 1) (Nat.succ_ne_zero d) = _
  rw [Rat.normalize_eq_mkRat]
  rfl
theorem Jln (n d : Int) (h : 0 <= d) : Rat.divInt n d = mkRat n d.natAbs := by
 cases d with
 | ofNat d => rfl
 | negSucc d => exact absurd h (by simp)
theorem Jlc (n : Int) (w : World) : Calls Tryz.prog 72 #[Qa n, Qa 0] w (Ret (.tuple #[qV 0, .bool false]) w) := by
 have hs := lh (fun w => Yp 0 w (by decide))
 have e : qV 0 = .agg #[.bool false, .int .u64 0, .string ⟨#[]⟩, .int .u64 0, .string ⟨#[]⟩] := rfl
 rw [e]
 clear e
 unfold Qa at hs ⊢
 generalize decide (n < 0) = ng at *
 obtain ⟨nd, cS⟩ : ∃ nd, decide ((0 : Int) < 0) = nd := ⟨_, rfl⟩
 rw [cS] at hs ⊢
 clear cS
 have es : Int.sign 0 = 0 := rfl
 rw [es] at hs
 clear es
 generalize Int.natAbs 0 = d at *
 generalize n.natAbs = a at *
 obtain ⟨b0, b1, b2, hB, hZ⟩ := bx3 w 54 #[.bool ng, .int .u64 (lo a : Int), .string (mo a)] 54 #[.bool nd, .int .u64 (lo d : Int), .string (mo d)] 56 #[.bool false, .int .u64 0, .string ⟨#[]⟩, .int .u64 0, .string ⟨#[]⟩]
 go_enter Tryz.func72, Tryz.ntmps72
 go_wp2_with fail
 generalize (((w.alloc (.cells #[.bool ng, .int .u64 (lo a : Int), .string (mo a)] 54)).alloc (.cells #[.bool nd, .int .u64 (lo d : Int), .string (mo d)] 54)).alloc (.cells #[.bool false, .int .u64 0, .string ⟨#[]⟩, .int .u64 0, .string ⟨#[]⟩] 56)) = W at *
 refine (hs.out _).mono ?_
 rintro e w1 ⟨rfl, x8⟩
 have aP := Ja hB x8
 (try clear cG cH cI cJ cK cL cM cN cO cP bM bN bO bP bQ); obtain ⟨b2, cG, cH, cI, cJ, cK, cL, cM, cN, cO, cP, bM, bN, bO, bP, bQ⟩ := b2.zf5 x8
 go_wp2
 refine bodyPost_ret (v := .tuple #[.agg #[.bool false, .int .u64 0, .string ⟨#[]⟩, .int .u64 0, .string ⟨#[]⟩], .bool false]) (by simp [results, Tryz.results72, go_sem, bM, bN, bO, bP, bQ]) rfl ?_
 exact ⟨rfl, Qy aP (by omega) _ _ _ _ _⟩
theorem Jla (n d : Int) (w : World) (hn : Je n.natAbs <= 549755813888) (hd : Je d.natAbs <= 549755813888) (aO : 0 < d) (hT : Tab w) :
  Calls Tryz.prog 72 #[Qa n, Qa d] w (Ret (.tuple #[qV (mkRat n d.natAbs), .bool true]) w) := by
 have hs := fun w => Yp d w (by omega)
 rw [Int.sign_eq_one_of_pos aO] at hs
 have aQ := fun w => Uv d w
 have aG := fun w (hT : Tab w) => Jdm n d.natAbs w hn hd (by omega) hT
 generalize mkRat n d.natAbs = q at *
 unfold Jj at aQ aG
 unfold Qa at hs aQ aG ⊢
 unfold qV at aG ⊢
 generalize decide (n < 0) = ng at *
 generalize decide (q.num < 0) = nq at *
 generalize decide (d < 0) = nd at *
 clear hn hd aO
 generalize d.natAbs = b at *
 generalize n.natAbs = a at *
 have HS := lh hs
 have HAB := lh aQ
 have HLO := lh aG
 clear hs aQ aG
 obtain ⟨b0, b1, b2, hB, hZ⟩ := bx3 w 54 #[.bool ng, .int .u64 (lo a : Int), .string (mo a)] 54 #[.bool nd, .int .u64 (lo b : Int), .string (mo b)] 56 #[.bool false, .int .u64 0, .string ⟨#[]⟩, .int .u64 0, .string ⟨#[]⟩]
 have tT := hT.next hB
 go_enter Tryz.func72, Tryz.ntmps72
 go_wp2_with fail
 generalize (((w.alloc (.cells #[.bool ng, .int .u64 (lo a : Int), .string (mo a)] 54)).alloc (.cells #[.bool nd, .int .u64 (lo b : Int), .string (mo b)] 54)).alloc (.cells #[.bool false, .int .u64 0, .string ⟨#[]⟩, .int .u64 0, .string ⟨#[]⟩] 56)) = W at *
 refine (HS.out _).mono ?_
 rintro e w1 ⟨rfl, x8⟩
 have aP := Ja hB x8
 (try clear s9 t7 t8); obtain ⟨b0, s9, t7, t8⟩ := b0.zc3 x8; (try clear aA aB aE); obtain ⟨b1, aA, aB, aE⟩ := b1.zc3 x8
 have b2 := b2.below x8 b2.lt
 have tT := tT.next x8
 clear x8 hB hT
 go_wp2_with fail
 refine (HS.out _).mono ?_
 rintro e w2 ⟨rfl, aF⟩
 have bY := Ja aP aF
 have b0 := b0.below aF b0.lt
 have b1 := b1.below aF b1.lt
 have b2 := b2.below aF b2.lt
 have tT := tT.next aF
 clear aF aP HS
 have ne2 := neA w.heap.size
 have ne3 := neB w.heap.size
 have ne4 := neC w.heap.size
 have ne5 := neD w.heap.size
 go_wp2_with fail
 obtain ⟨s9, t7, t8⟩ := b0.c3; have aY := b0.lt; have c0 := b0.drew; have y8 := c0.lt; obtain ⟨aA, aB, aE⟩ := b1.c3; have aZ := b1.lt; have c1 := b1.drew; have y9 := c1.lt; have c2 := b2.drew; have aC := c2.lt; have hc := Jf w2; have tT : Tab w2.drew := tT; go_region_held3 (fun w' => w'.cell? ⟨w.heap.size, 0, none⟩ = some (.bool ng) /\ w'.cell? ⟨w.heap.size, 1, none⟩ = some (.int .u64 (lo a : Int)) /\ w'.cell? ⟨w.heap.size, 2, none⟩ = some (.string (mo a)) /\ w'.cell? ⟨w.heap.size + 1, 0, none⟩ = some (.bool nd) /\ w'.cell? ⟨w.heap.size + 1, 1, none⟩ = some (.int .u64 (lo b : Int)) /\ w'.cell? ⟨w.heap.size + 1, 2, none⟩ = some (.string (mo b))) (go_keep) (first | (go_at_call 110; refine (HAB.out _).mono ?_; rintro e w1 ⟨rfl, o5⟩; (try clear j6 j7 j8); obtain ⟨c0, j6, j7, j8⟩ := c0.zc3 o5; (try clear y8); have y8 := c0.lt; (try clear j9 o0 aD); obtain ⟨c1, j9, o0, aD⟩ := c1.zc3 o5; (try clear y9); have y9 := c1.lt; have c2 := c2.yy o5; (try clear aC); have aC := c2.lt; (first | have tT := tT.next o5 | have tT := (tT.next (Jb _ _)).next o5 | have tT := (tT.next (Jl _ _ _)).next o5); have hc := Ja hc o5) | (go_at_call 109; (first | refine (HLO.out _ tT).mono ?_ | refine (HLO.out _ (tT.next (Jb _ _))).mono ?_ | refine (HLO.out _ (tT.next (Jl _ _ _))).mono ?_); rintro e w2 ⟨rfl, x9⟩; (try clear j6 j7 j8); obtain ⟨c0, j6, j7, j8⟩ := c0.zc3 x9; (try clear y8); have y8 := c0.lt; (try clear j9 o0 aD); obtain ⟨c1, j9, o0, aD⟩ := c1.zc3 x9; (try clear y9); have y9 := c1.lt; have c2 := c2.yy x9; (try clear aC); have aC := c2.lt; have hc := Ja hc x9; obtain ⟨bC, bD, bE, bF, bG, bH, bI, bJ, bK, bL, aJ, aK, aL, aM, aN⟩ := c2.f5))
 all_goals
  go_wp2
  refine bodyPost_ret (v := .tuple #[.agg #[.bool nq, .int .u64 (lo q.num.natAbs : Int), .string (mo q.num.natAbs), .int .u64 (lo (qden q) : Int), .string (mo (qden q))], .bool true]) (by simp [results, Tryz.results72, go_sem, aJ, aK, aL, aM, aN]) rfl ?_
  exact ⟨rfl, Qy (Ja bY hc) (by omega) _ _ _ _ _⟩
theorem Jlb (n d : Int) (w : World) (hn : Je n.natAbs <= 549755813888) (hd : Je d.natAbs <= 549755813888) (aO : d < 0) (hT : Tab w) :
  Calls Tryz.prog 72 #[Qa n, Qa d] w (Ret (.tuple #[qV (mkRat (-n) d.natAbs), .bool true]) w) := by
 have hs := fun w => Yp d w (by omega)
 rw [Int.sign_eq_neg_one_of_neg aO] at hs
 have aQ := fun w => Uv d w
 have bZ := fun w => Jf1 n w (by omega)
 have aG := fun w (hT : Tab w) => Jdm (-n) d.natAbs w (by rw [Int.natAbs_neg]; exact hn) hd (by omega) hT
 generalize mkRat (-n) d.natAbs = q at *
 unfold Jj at aQ aG
 unfold Qa at hs aQ aG bZ ⊢
 unfold qV at aG ⊢
 rw [Int.natAbs_neg] at aG bZ
 generalize decide (n < 0) = ng at *
 generalize decide (-n < 0) = nm at *
 generalize decide (q.num < 0) = nq at *
 generalize decide (d < 0) = nd at *
 clear hn hd aO
 generalize d.natAbs = b at *
 generalize n.natAbs = a at *
 have HS := lh hs
 have HAB := lh aQ
 have HLO := lh aG
 have HNG := lh bZ
 clear hs aQ aG bZ
 obtain ⟨b0, b1, b2, hB, hZ⟩ := bx3 w 54 #[.bool ng, .int .u64 (lo a : Int), .string (mo a)] 54 #[.bool nd, .int .u64 (lo b : Int), .string (mo b)] 56 #[.bool false, .int .u64 0, .string ⟨#[]⟩, .int .u64 0, .string ⟨#[]⟩]
 have tT := hT.next hB
 have TW := lh hT
 go_enter Tryz.func72, Tryz.ntmps72
 go_wp2_with fail
 generalize (((w.alloc (.cells #[.bool ng, .int .u64 (lo a : Int), .string (mo a)] 54)).alloc (.cells #[.bool nd, .int .u64 (lo b : Int), .string (mo b)] 54)).alloc (.cells #[.bool false, .int .u64 0, .string ⟨#[]⟩, .int .u64 0, .string ⟨#[]⟩] 56)) = W at *
 refine (HS.out _).mono ?_
 rintro e w1 ⟨rfl, x8⟩
 have aP := Ja hB x8
 (try clear s9 t7 t8); obtain ⟨b0, s9, t7, t8⟩ := b0.zc3 x8; (try clear aA aB aE); obtain ⟨b1, aA, aB, aE⟩ := b1.zc3 x8
 have b2 := b2.below x8 b2.lt
 have tT := tT.next x8
 clear x8 hB hT
 go_wp2_with fail
 refine (HS.out _).mono ?_
 rintro e w2 ⟨rfl, aF⟩
 have bY := Ja aP aF
 (try clear s9 t7 t8); obtain ⟨b0, s9, t7, t8⟩ := b0.zc3 aF
 have b1 := b1.below aF b1.lt
 have b2 := b2.below aF b2.lt
 have tT := tT.next aF
 clear aF aP HS aA aB aE
 go_wp2_with fail
 refine (HNG.out _).mono ?_
 rintro e w3 ⟨rfl, aV⟩
 have cT := Ja bY aV
 (try clear s9 t7 t8 bR bS bT bU bV bW); obtain ⟨b0, s9, t7, t8, bR, bS, bT, bU, bV, bW⟩ := b0.zf3 aV
 have b1 := b1.below aV b1.lt
 have b2 := b2.below aV b2.lt
 have tT := tT.next aV
 have ne2 := neA w.heap.size
 have ne3 := neB w.heap.size
 have ne4 := neC w.heap.size
 have ne5 := neD w.heap.size
 have s1 := ((b0.set_ 0 (.bool nm)).set_ 1 (.int .u64 (lo a : Int))).set_ 2 (.string (mo a))
 have s2 := ((b1.far (p := ⟨w.heap.size, 0, none⟩) (by simp) (.bool nm)).far (p := ⟨w.heap.size, 1, none⟩) (by simp) (.int .u64 (lo a : Int))).far (p := ⟨w.heap.size, 2, none⟩) (by simp) (.string (mo a))
 have s3 := ((b2.far (p := ⟨w.heap.size, 0, none⟩) (by simp; omega) (.bool nm)).far (p := ⟨w.heap.size, 1, none⟩) (by simp; omega) (.int .u64 (lo a : Int))).far (p := ⟨w.heap.size, 2, none⟩) (by simp; omega) (.string (mo a))
 have s4 := Kh (g := w.heap.size) cT zd (.bool nm) (.int .u64 (lo a : Int)) (.string (mo a))
 have s5 : Tab (((w3.setCell ⟨w.heap.size, 0, none⟩ (.bool nm)).setCell ⟨w.heap.size, 1, none⟩ (.int .u64 (lo a : Int))).setCell ⟨w.heap.size, 2, none⟩ (.string (mo a))) := TW.out.next s4
 simp at s1
 clear aV HNG b0 b1 b2 tT cT bY
 have HC := lh (And.intro s1 (And.intro s2 (And.intro s3 (And.intro s4 s5))))
 clear s1 s2 s3 s4 s5
 go_wp2_with fail
 obtain ⟨b0, b1, b2, dG, tT⟩ := HC.out
 clear HC
 generalize ((w3.setCell ⟨w.heap.size, 0, none⟩ (.bool nm)).setCell ⟨w.heap.size, 1, none⟩ (.int .u64 (lo a : Int))).setCell ⟨w.heap.size, 2, none⟩ (.string (mo a)) = w4 at *
 clear s9 t7 t8 bR bS bT bU bV bW
 obtain ⟨s9, t7, t8⟩ := b0.c3; have aY := b0.lt; have c0 := b0.drew; have y8 := c0.lt; obtain ⟨aA, aB, aE⟩ := b1.c3; have aZ := b1.lt; have c1 := b1.drew; have y9 := c1.lt; have c2 := b2.drew; have aC := c2.lt; have hc := Jf w4; have tT : Tab w4.drew := tT; go_region_held3 (fun w' => w'.cell? ⟨w.heap.size, 0, none⟩ = some (.bool nm) /\ w'.cell? ⟨w.heap.size, 1, none⟩ = some (.int .u64 (lo a : Int)) /\ w'.cell? ⟨w.heap.size, 2, none⟩ = some (.string (mo a)) /\ w'.cell? ⟨w.heap.size + 1, 0, none⟩ = some (.bool nd) /\ w'.cell? ⟨w.heap.size + 1, 1, none⟩ = some (.int .u64 (lo b : Int)) /\ w'.cell? ⟨w.heap.size + 1, 2, none⟩ = some (.string (mo b))) (go_keep) (first | (go_at_call 110; refine (HAB.out _).mono ?_; rintro e w1 ⟨rfl, o5⟩; (try clear j6 j7 j8); obtain ⟨c0, j6, j7, j8⟩ := c0.zc3 o5; (try clear y8); have y8 := c0.lt; (try clear j9 o0 aD); obtain ⟨c1, j9, o0, aD⟩ := c1.zc3 o5; (try clear y9); have y9 := c1.lt; have c2 := c2.yy o5; (try clear aC); have aC := c2.lt; (first | have tT := tT.next o5 | have tT := (tT.next (Jb _ _)).next o5 | have tT := (tT.next (Jl _ _ _)).next o5); have hc := Ja hc o5) | (go_at_call 109; (first | refine (HLO.out _ tT).mono ?_ | refine (HLO.out _ (tT.next (Jb _ _))).mono ?_ | refine (HLO.out _ (tT.next (Jl _ _ _))).mono ?_); rintro e w2 ⟨rfl, x9⟩; (try clear j6 j7 j8); obtain ⟨c0, j6, j7, j8⟩ := c0.zc3 x9; (try clear y8); have y8 := c0.lt; (try clear j9 o0 aD); obtain ⟨c1, j9, o0, aD⟩ := c1.zc3 x9; (try clear y9); have y9 := c1.lt; have c2 := c2.yy x9; (try clear aC); have aC := c2.lt; have hc := Ja hc x9; obtain ⟨bC, bD, bE, bF, bG, bH, bI, bJ, bK, bL, aJ, aK, aL, aM, aN⟩ := c2.f5))
 all_goals
  go_wp2
  refine bodyPost_ret (v := .tuple #[.agg #[.bool nq, .int .u64 (lo q.num.natAbs : Int), .string (mo q.num.natAbs), .int .u64 (lo (qden q) : Int), .string (mo (qden q))], .bool true]) (by simp [results, Tryz.results72, go_sem, aJ, aK, aL, aM, aN]) rfl ?_
  exact ⟨rfl, Qy (Ja dG hc) (by omega) _ _ _ _ _⟩
theorem Jn0 (n d : Int) (w : World) (hn : Je n.natAbs <= 549755813888) (hd : Je d.natAbs <= 549755813888) (hT : Tab w) :
  Calls Tryz.prog 72 #[Qa n, Qa d] w (Ret (.tuple #[qV (Rat.divInt n d), .bool (decide (d ≠ 0))]) w) := by
 rcases Int.lt_trichotomy d 0 with h | h | h
 ·rw [Jlo n d h, decide_eq_true (show d ≠ 0 by omega)]
  exact Jlb n d w hn hd h hT
 ·subst h
  have e : Rat.divInt n 0 = 0 := Rat.divInt_zero n
  rw [e, decide_eq_false (by simp)]
  exact Jlc n w
 rw [Jln n d (by omega), decide_eq_true (show d ≠ 0 by omega)]
 exact Jla n d w hn hd h hT
