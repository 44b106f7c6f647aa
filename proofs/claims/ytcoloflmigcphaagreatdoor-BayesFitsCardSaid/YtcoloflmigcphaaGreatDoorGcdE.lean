import Derived.Test.YtcoloflmigcphaaGreatDoorGcdB
import Derived.Test.YtcoloflmigcphaaGreatDoorGcdC
namespace Go.Proofs.YtcoloflmigcphaaGreatDoor
set_option maxRecDepth 100000
set_option maxHeartbeats 1000000
open Go.RowKit
set_option linter.all false
theorem Jfz (x y : Int) (X Y : Nat) (w : World) (hx : Je x.natAbs <= 549755813888) (hy : Je y.natAbs <= 549755813888) (hT : Tab w) (hX : X = if x.natAbs < y.natAbs then y.natAbs else x.natAbs) (hY : Y = if x.natAbs < y.natAbs then x.natAbs else y.natAbs) (cL : Y ≠ 0) (cN : X % Y ≠ 0) (aB : ¬ Y < 18446744073709551616) :
  Calls Tryz.prog 80 #[Qj x, Qj y] w (Ret (Jg (Nat.gcd X Y)) w) := by
 have HY0 := lh cL
 have HR0 := lh cN
 have HYs := lh aB
 clear cL cN aB
 have bZ : Je X <= 549755813888 := by rw [hX]; split <;> assumption
 have cA : Je Y <= 549755813888 := by rw [hY]; split <;> assumption
 have aQ := lh (fun w => Zb x.natAbs y.natAbs w (by omega) (by omega))
 obtain ⟨GG, aR⟩ : ∃ GG, Nat.gcd X Y = GG := ⟨_, rfl⟩
 rw [aR]
 have HGG := lh aR
 clear aR
 have HXY := lh (And.intro hX hY)
 clear hX hY
 unfold Qj
 generalize hnx : decide (x < 0) = nx
 generalize hny : decide (y < 0) = ny
 clear hnx hny
 generalize x.natAbs = a at *
 generalize y.natAbs = b at *
 unfold Jg at aQ ⊢
 obtain ⟨b0, b1, b2, hB, hZ⟩ := bx3 w 39 #[.bool nx, .int .u64 (lo a : Int), .string (mo a)] 39 #[.bool ny, .int .u64 (lo b : Int), .string (mo b)] 37 #[.int .u64 0, .string ⟨#[]⟩]
 have bO := hT.next hB
 go_enter Tryz.func80, Tryz.ntmps80
 go_upto_region 1 with fail
 generalize (((w.alloc (.cells #[.bool nx, .int .u64 (lo a : Int), .string (mo a)] 39)).alloc (.cells #[.bool ny, .int .u64 (lo b : Int), .string (mo b)] 39)).alloc (.cells #[.int .u64 0, .string ⟨#[]⟩] 37)) = W at *
 obtain ⟨aS, aT, aU⟩ := b0.c3; obtain ⟨aV, aW, aX⟩ := b1.c3
 have bP := b0.lt
 have bQ := b1.lt
 go_cut [5, 6] (fun v5 v6 wc => Jmw W a b v5 v6 wc)
 case first =>
  go_region
  all_goals
   go_wp2_with fail
   go_meet
   first
    | exact ⟨W.heap.size, W.heap.size + 1, rfl, rfl, by omega, by omega, by omega, (Blk.new W 37 #[.int .u64 (lo a : Int), .string (mo a)]).alloc _, Blk.new2 W _ 37 #[.int .u64 (lo b : Int), .string (mo b)], Jw (Jo W _ _) 1⟩
    | exact ⟨W.heap.size + 1, W.heap.size, rfl, rfl, by omega, by omega, by omega, Blk.new2 W _ 37 #[.int .u64 (lo a : Int), .string (mo a)], (Blk.new W 37 #[.int .u64 (lo b : Int), .string (mo b)]).alloc _, Jw (Jo W _ _) 1⟩
 case rest =>
  obtain ⟨g, h, rfl, rfl, aL, aM, aN, cI, s9, y9⟩ := hcut
  clear aS aT aU aV aW aX b0 b1 bP bQ
  have bS : ¬ h = g := fun e => aL e.symm
  have bT : ¬ g = h := aL
  obtain ⟨j0, j6⟩ := cI.c2; obtain ⟨j7, j8⟩ := s9.c2
  go_wp2_with fail
  refine (aQ.out _).mono ?_
  rintro e w1 ⟨rfl, cK⟩
  have cJ := Ja y9 cK
  (try clear j0 j6 j9 bR cF cG); obtain ⟨cI, j0, j6, j9, bR, cF, cG⟩ := cI.zf2 cK; (try clear j7 j8 o0 o9 cH p9); obtain ⟨s9, j7, j8, o0, o9, cH, p9⟩ := s9.zf2 cK
  obtain ⟨cv, aY⟩ : ∃ cv, Qz a b = cv := ⟨_, rfl⟩
  rw [aY]
  have bL : cv < 0 ↔ a < b := by
   rw [<- aY]
   unfold Qz
   split
   ·simp; assumption
   split <;> simp <;> omega
  have HCL := lh bL
  clear aY bL aQ y9 cK
  go_upto_if 21 with fail
  go_cut [20] (fun _ wc => GB W g h X Y wc)
  case first =>
   by_cases aA : a < b
   ·have aZ : X = b /\ Y = a := by have := HXY.out; rw [if_pos aA, if_pos aA] at this; exact this
    obtain ⟨rfl, rfl⟩ := aZ
    have bU := HCL.out.2 aA
    clear HXY HCL aA
    go_wp2
    go_meet
    obtain ⟨s1, s2⟩ := Uc cI s9 aL (.int .u64 (lo X : Int)) (.string (mo X)) (.int .u64 (lo Y : Int)) (.string (mo Y))
    exact ⟨s1, s2, (((cJ.setCell aM _).setCell aM _).setCell aN _).setCell aN _⟩
   have aZ : X = a /\ Y = b := by have := HXY.out; rw [if_neg aA, if_neg aA] at this; exact this
   obtain ⟨rfl, rfl⟩ := aZ
   have bU : ¬ cv < 0 := fun h => aA (HCL.out.1 h)
   clear HXY HCL aA
   go_wp2
   go_meet
   exact ⟨cI, s9, cJ⟩
  case rest =>
   clear j0 j6 j9 bR cF cG j7 j8 o0 o9 cH p9
   clear cI s9 cJ HCL HXY
   obtain ⟨cI, s9, y9⟩ := hcut
   have aC := lh (fun w => Qn Y w (by omega))
   unfold Jg at aC
   have b2 := b2.below y9 b2.lt
   obtain ⟨j0, j6, j9, bR, cF, cG⟩ := cI.f2; obtain ⟨j7, j8, o0, o9, cH, p9⟩ := s9.f2
   have bA := Qv Y
   have n1 : ¬ g = w.heap.size + 1 + 1 := by have := hZ.out; omega
   have n2 : ¬ w.heap.size + 1 + 1 = g := by have := hZ.out; omega
   have n3 : ¬ h = w.heap.size + 1 + 1 := by have := hZ.out; omega
   have n4 : ¬ w.heap.size + 1 + 1 = h := by have := hZ.out; omega
   go_wp2_with fail
   refine (aC.out _).mono ?_
   rintro e w1 ⟨rfl, cK⟩
   have cJ := Ja y9 cK
   (try clear j0 j6 j9 bR cF cG); obtain ⟨cI, j0, j6, j9, bR, cF, cG⟩ := cI.zf2 cK; (try clear j7 j8 o0 o9 cH p9); obtain ⟨s9, j7, j8, o0, o9, cH, p9⟩ := s9.zf2 cK
   have b2 := b2.below cK b2.lt
   clear aC cK y9
   have cL := HY0.out
   have bV : ((Je Y : Int) == 0) = false := by simp; have := bA.2 cL; omega
   have bW : (Je Y == 0) = false := by simp; have := bA.2 cL; omega
   have bB := lh (fun w => Jca X Y w cL (by omega) (by omega))
   have bM : Nat.gcd X Y = Nat.gcd Y (X % Y) := by rw [Nat.gcd_comm, Nat.gcd_rec, Nat.gcd_comm]
   rw [bM] at HGG
   have cB : Je (X % Y) <= Je Y := Qc (Nat.le_of_lt (Nat.mod_lt _ (by omega)))
   have cO : X % Y < Y := Nat.mod_lt _ (by omega)
   unfold Jg at bB
   generalize X / Y = Q at *
   generalize X % Y = R at *
   clear bM bA
   go_wp2_with fail
   refine (bB.out _).mono ?_
   rintro e w2 ⟨rfl, aD⟩
   have aE := Ja (Ja cJ aD) (Jo w2 (.cells #[.int .u64 (lo Q : Int), .string (mo Q)] 37) (.cells #[.int .u64 (lo R : Int), .string (mo R)] 37))
   have b2 := ((b2.below aD b2.lt).alloc (.cells #[.int .u64 (lo Q : Int), .string (mo Q)] 37)).alloc (.cells #[.int .u64 (lo R : Int), .string (mo R)] 37)
   have cI := cI.below aD cI.lt
   have s9 := s9.below aD s9.lt
   have bX := cI.lt
   have bY := s9.lt
   have cI := (cI.alloc (.cells #[.int .u64 (lo Q : Int), .string (mo Q)] 37)).alloc (.cells #[.int .u64 (lo R : Int), .string (mo R)] 37)
   have s9 := (s9.alloc (.cells #[.int .u64 (lo Q : Int), .string (mo Q)] 37)).alloc (.cells #[.int .u64 (lo R : Int), .string (mo R)] 37)
   have b8 := Blk.new2 w2 (.cells #[.int .u64 (lo Q : Int), .string (mo Q)] 37) 37 #[.int .u64 (lo R : Int), .string (mo R)]
   have n5 : ¬ w2.heap.size + 1 = g := by omega
   have n6 : ¬ w2.heap.size + 1 = h := by omega
   have n7 : ¬ g = w2.heap.size + 1 := by omega
   have n8 : ¬ h = w2.heap.size + 1 := by omega
   have aF := cJ.size
   have bC := aD.size
   have n9 : ¬ w2.heap.size + 1 = w.heap.size + 1 + 1 := by have := hZ.out; omega
   clear aD cJ bB
   clear j0 j6 j9 bR cF cG j7 j8 o0 o9 cH p9
   obtain ⟨j0, j6, j9, bR, cF, cG⟩ := cI.f2; obtain ⟨j7, j8, o0, o9, cH, p9⟩ := s9.f2
   obtain ⟨bD, bE⟩ := b8.c2
   go_upto_region 7 with fail
   generalize (w2.alloc (.cells #[.int .u64 (lo Q : Int), .string (mo Q)] 37)).alloc (.cells #[.int .u64 (lo R : Int), .string (mo R)] 37) = w3 at *
   go_cut [35] (fun _ wc => GB W g h Y R wc)
   case first =>
    go_region
    all_goals
     go_wp2_with fail
     go_meet
     obtain ⟨s1, s2⟩ := Uc cI s9 aL (.int .u64 (lo Y : Int)) (.string (mo Y)) (.int .u64 (lo R : Int)) (.string (mo R))
     exact ⟨s1, s2, Jw ((((aE.setCell aM _).setCell aM _).setCell aN _).setCell aN _) 1⟩
   case rest =>
    have aG : Blk W (w.heap.size + 1 + 1) 37 #[.int .u64 0, .string ⟨#[]⟩] := by assumption
    clear j0 j6 j9 bR cF cG j7 j8 o0 o9 cH p9
    clear cI s9 bD bE b8 n5 n6 n7 n8 n9 bX bY aE b2 aF bC bV bW
    obtain ⟨cI, s9, y9⟩ := hcut
    have aC := lh (fun w => Qn R w (by omega))
    unfold Jg at aC
    have b2 := aG.below y9 aG.lt
    obtain ⟨j0, j6, j9, bR, cF, cG⟩ := cI.f2; obtain ⟨j7, j8, o0, o9, cH, p9⟩ := s9.f2
    have bF := Qv R
    go_wp2_with fail
    refine (aC.out _).mono ?_
    rintro e w1 ⟨rfl, cK⟩
    have cJ := Ja y9 cK
    (try clear j0 j6 j9 bR cF cG); obtain ⟨cI, j0, j6, j9, bR, cF, cG⟩ := cI.zf2 cK; (try clear j7 j8 o0 o9 cH p9); obtain ⟨s9, j7, j8, o0, o9, cH, p9⟩ := s9.zf2 cK
    have b2 := b2.below cK b2.lt
    clear aC cK y9
    have cN := HR0.out
    have cD : ((Je R : Int) == 0) = false := by simp; have := bF.2 cN; omega
    have cE : (Je R == 0) = false := by simp; have := bF.2 cN; omega
    clear bF
    have aO := fun w => Jba Y w
    have aB := HYs.out
    rw [if_neg aB] at aO
    have aP := fun w (hT : Tab w) => Jev Y R w (by omega) cN (by omega) (by omega) hT
    rw [HGG.out] at aP
    unfold Jg at aO aP
    have HSM := lh aO
    have HBN := lh aP
    clear aO aP
    go_wp2_with fail
    refine (HSM.out _).mono ?_
    rintro e w3 ⟨rfl, aH⟩
    have aI := Ja cJ aH
    (try clear j0 j6 j9 bR cF cG); obtain ⟨cI, j0, j6, j9, bR, cF, cG⟩ := cI.zf2 aH; (try clear j7 j8 o0 o9 cH p9); obtain ⟨s9, j7, j8, o0, o9, cH, p9⟩ := s9.zf2 aH
    have b2 := b2.below aH b2.lt
    clear aH cJ
    go_wp2_with fail
    refine (HBN.out _ (bO.next aI)).mono ?_
    rintro e w4 ⟨rfl, bN⟩
    have bG := Ja aI bN
    (try clear bH bI bJ bK aJ aK); obtain ⟨b2, bH, bI, bJ, bK, aJ, aK⟩ := b2.zf2 bN
    go_wp2
    refine bodyPost_ret (v := .agg #[.int .u64 (lo GG : Int), .string (mo GG)]) (by simp [results, Tryz.results80, go_sem, aJ, aK]) rfl ?_
    exact ⟨rfl, Xo (Ja hB bG) (by omega) _ _⟩
theorem Jdc (x y : Int) (X Y : Nat) (w : World) (hx : Je x.natAbs <= 549755813888) (hy : Je y.natAbs <= 549755813888) (hT : Tab w) (hX : X = if x.natAbs < y.natAbs then y.natAbs else x.natAbs) (hY : Y = if x.natAbs < y.natAbs then x.natAbs else y.natAbs) :
  Calls Tryz.prog 80 #[Qj x, Qj y] w (Ret (Jg (Nat.gcd X Y)) w) := by
 by_cases cL : Y = 0
 ·exact Jf2 x y X Y w hx hy hT hX hY cL
 by_cases cN : X % Y = 0
 ·exact Jf1 x y X Y w hx hy hT hX hY cL cN
 by_cases aB : Y < 18446744073709551616
 ·exact Jf0 x y X Y w hx hy hT hX hY cL cN aB
 exact Jfz x y X Y w hx hy hT hX hY cL cN aB
theorem Vf (x y : Int) (w : World) (hx : Je x.natAbs <= 549755813888) (hy : Je y.natAbs <= 549755813888) (hT : Tab w) :
  Calls Tryz.prog 80 #[Qj x, Qj y] w (Ret (Jg (Nat.gcd x.natAbs y.natAbs)) w) := by
 have h := Jdc x y _ _ w hx hy hT rfl rfl
 have e : Nat.gcd (if x.natAbs < y.natAbs then y.natAbs else x.natAbs) (if x.natAbs < y.natAbs then x.natAbs else y.natAbs) = Nat.gcd x.natAbs y.natAbs := by
  split
  ·exact Nat.gcd_comm _ _
  rfl
 rw [e] at h
 exact h
