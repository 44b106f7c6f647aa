import Derived.Test.YtcoloflmigcphaaGreatDoorGcdPA
namespace Go.Proofs.YtcoloflmigcphaaGreatDoor
set_option maxRecDepth 100000
set_option maxHeartbeats 1000000
open Go.RowKit
set_option linter.all false
theorem Jf0 (x y : Int) (X Y : Nat) (w : World) (hx : Je x.natAbs <= 549755813888) (hy : Je y.natAbs <= 549755813888) (hT : Tab w) (hX : X = if x.natAbs < y.natAbs then y.natAbs else x.natAbs) (hY : Y = if x.natAbs < y.natAbs then x.natAbs else y.natAbs) (aD : Y ≠ 0) (aF : X % Y ≠ 0) (aG : Y < 18446744073709551616) :
  Calls Tryz.prog 80 #[Qj x, Qj y] w (Ret (Jg (Nat.gcd X Y)) w) := by
 have HY0 := lh aD
 have HR0 := lh aF
 have HYs := lh aG
 clear aD aF aG
 have cE : Je X <= 549755813888 := by rw [hX]; split <;> assumption
 have cF : Je Y <= 549755813888 := by rw [hY]; split <;> assumption
 have aV := lh (fun w => Zb x.natAbs y.natAbs w (by omega) (by omega))
 obtain ⟨GG, aW⟩ : ∃ GG, Nat.gcd X Y = GG := ⟨_, rfl⟩
 rw [aW]
 have HGG := lh aW
 clear aW
 have HXY := lh (And.intro hX hY)
 clear hX hY
 unfold Qj
 generalize hnx : decide (x < 0) = nx
 generalize hny : decide (y < 0) = ny
 clear hnx hny
 generalize x.natAbs = a at *
 generalize y.natAbs = b at *
 unfold Jg at aV ⊢
 obtain ⟨b0, b1, b2, hB, hZ⟩ := bx3 w 39 #[.bool nx, .int .u64 (lo a : Int), .string (mo a)] 39 #[.bool ny, .int .u64 (lo b : Int), .string (mo b)] 37 #[.int .u64 0, .string ⟨#[]⟩]
 have cG := hT.next hB
 go_enter Tryz.func80, Tryz.ntmps80
 go_upto_region 1 with fail
 generalize (((w.alloc (.cells #[.bool nx, .int .u64 (lo a : Int), .string (mo a)] 39)).alloc (.cells #[.bool ny, .int .u64 (lo b : Int), .string (mo b)] 39)).alloc (.cells #[.int .u64 0, .string ⟨#[]⟩] 37)) = W at *
 obtain ⟨aX, aY, aZ⟩ := b0.c3; obtain ⟨bA, bB, bC⟩ := b1.c3
 have bT := b0.lt
 have bU := b1.lt
 go_cut [5, 6] (fun v5 v6 wc => Jmw W a b v5 v6 wc)
 case first =>
  go_region
  all_goals
   go_wp2_with fail
   go_meet
   first
    | exact ⟨W.heap.size, W.heap.size + 1, rfl, rfl, by omega, by omega, by omega, (Blk.new W 37 #[.int .u64 (lo a : Int), .string (mo a)]).alloc _, Blk.new2 W _ 37 #[.int .u64 (lo b : Int), .string (mo b)], Jw (Jo W _ _) 1⟩
    | exact ⟨W.heap.size + 1, W.heap.size, rfl, rfl, by omega, by omega, by omega, Blk.new2 W _ 37 #[.int .u64 (lo a : Int), .string (mo a)], (Blk.new W 37 #[.int .u64 (lo b : Int), .string (mo b)]).alloc _, Jw (Jo W _ _) 1⟩
 case rest =>
  obtain ⟨g, h, rfl, rfl, aR, aS, aT, cU, s9, dB⟩ := hcut
  clear aX aY aZ bA bB bC b0 b1 bT bU
  have bV : ¬ h = g := fun e => aR e.symm
  have bW : ¬ g = h := aR
  obtain ⟨j0, j6⟩ := cU.c2; obtain ⟨j7, j8⟩ := s9.c2
  go_wp2_with fail
  refine (aV.out _).mono ?_
  rintro e w1 ⟨rfl, dA⟩
  have cZ := Ja dB dA
  (try clear j0 j6 j9 bR cP cR); obtain ⟨cU, j0, j6, j9, bR, cP, cR⟩ := cU.zf2 dA; (try clear j7 j8 o0 o9 cT p9); obtain ⟨s9, j7, j8, o0, o9, cT, p9⟩ := s9.zf2 dA
  obtain ⟨cv, bD⟩ : ∃ cv, Qz a b = cv := ⟨_, rfl⟩
  rw [bD]
  have bP : cv < 0 ↔ a < b := by
   rw [<- bD]
   unfold Qz
   split
   ·simp; assumption
   split <;> simp <;> omega
  have HCL := lh bP
  clear bD bP aV dB dA
  go_upto_if 21 with fail
  go_cut [20] (fun _ wc => GB W g h X Y wc)
  case first =>
   by_cases y9 : a < b
   ·have bE : X = b /\ Y = a := by have := HXY.out; rw [if_pos y9, if_pos y9] at this; exact this
    obtain ⟨rfl, rfl⟩ := bE
    have bX := HCL.out.2 y9
    clear HXY HCL y9
    go_wp2
    go_meet
    obtain ⟨s1, s2⟩ := Uc cU s9 aR (.int .u64 (lo X : Int)) (.string (mo X)) (.int .u64 (lo Y : Int)) (.string (mo Y))
    exact ⟨s1, s2, (((cZ.setCell aS _).setCell aS _).setCell aT _).setCell aT _⟩
   have bE : X = a /\ Y = b := by have := HXY.out; rw [if_neg y9, if_neg y9] at this; exact this
   obtain ⟨rfl, rfl⟩ := bE
   have bX : ¬ cv < 0 := fun h => y9 (HCL.out.1 h)
   clear HXY HCL y9
   go_wp2
   go_meet
   exact ⟨cU, s9, cZ⟩
  case rest =>
   clear j0 j6 j9 bR cP cR j7 j8 o0 o9 cT p9
   clear cU s9 cZ HCL HXY
   obtain ⟨cU, s9, dB⟩ := hcut
   have aC := lh (fun w => Qn Y w (by omega))
   unfold Jg at aC
   have b2 := b2.below dB b2.lt
   obtain ⟨j0, j6, j9, bR, cP, cR⟩ := cU.f2; obtain ⟨j7, j8, o0, o9, cT, p9⟩ := s9.f2
   have bF := Qv Y
   have n1 : ¬ g = w.heap.size + 1 + 1 := by have := hZ.out; omega
   have n2 : ¬ w.heap.size + 1 + 1 = g := by have := hZ.out; omega
   have n3 : ¬ h = w.heap.size + 1 + 1 := by have := hZ.out; omega
   have n4 : ¬ w.heap.size + 1 + 1 = h := by have := hZ.out; omega
   go_wp2_with fail
   refine (aC.out _).mono ?_
   rintro e w1 ⟨rfl, dA⟩
   have cZ := Ja dB dA
   (try clear j0 j6 j9 bR cP cR); obtain ⟨cU, j0, j6, j9, bR, cP, cR⟩ := cU.zf2 dA; (try clear j7 j8 o0 o9 cT p9); obtain ⟨s9, j7, j8, o0, o9, cT, p9⟩ := s9.zf2 dA
   have b2 := b2.below dA b2.lt
   clear aC dA dB
   have aD := HY0.out
   have bY : ((Je Y : Int) == 0) = false := by simp; have := bF.2 aD; omega
   have bZ : (Je Y == 0) = false := by simp; have := bF.2 aD; omega
   have bG := lh (fun w => Jca X Y w aD (by omega) (by omega))
   have bQ : Nat.gcd X Y = Nat.gcd Y (X % Y) := by rw [Nat.gcd_comm, Nat.gcd_rec, Nat.gcd_comm]
   rw [bQ] at HGG
   have cH : Je (X % Y) <= Je Y := Qc (Nat.le_of_lt (Nat.mod_lt _ (by omega)))
   have cI : X % Y < Y := Nat.mod_lt _ (by omega)
   unfold Jg at bG
   generalize X / Y = Q at *
   generalize X % Y = R at *
   clear bQ bF
   go_wp2_with fail
   refine (bG.out _).mono ?_
   rintro e w2 ⟨rfl, aE⟩
   have aH := Ja (Ja cZ aE) (Jo w2 (.cells #[.int .u64 (lo Q : Int), .string (mo Q)] 37) (.cells #[.int .u64 (lo R : Int), .string (mo R)] 37))
   have b2 := ((b2.below aE b2.lt).alloc (.cells #[.int .u64 (lo Q : Int), .string (mo Q)] 37)).alloc (.cells #[.int .u64 (lo R : Int), .string (mo R)] 37)
   have cU := cU.below aE cU.lt
   have s9 := s9.below aE s9.lt
   have bH := cU.lt
   have cA := s9.lt
   have cU := (cU.alloc (.cells #[.int .u64 (lo Q : Int), .string (mo Q)] 37)).alloc (.cells #[.int .u64 (lo R : Int), .string (mo R)] 37)
   have s9 := (s9.alloc (.cells #[.int .u64 (lo Q : Int), .string (mo Q)] 37)).alloc (.cells #[.int .u64 (lo R : Int), .string (mo R)] 37)
   have b8 := Blk.new2 w2 (.cells #[.int .u64 (lo Q : Int), .string (mo Q)] 37) 37 #[.int .u64 (lo R : Int), .string (mo R)]
   have n5 : ¬ w2.heap.size + 1 = g := by omega
   have n6 : ¬ w2.heap.size + 1 = h := by omega
   have n7 : ¬ g = w2.heap.size + 1 := by omega
   have n8 : ¬ h = w2.heap.size + 1 := by omega
   have aI := cZ.size
   have bI := aE.size
   have n9 : ¬ w2.heap.size + 1 = w.heap.size + 1 + 1 := by have := hZ.out; omega
   clear aE cZ bG
   clear j0 j6 j9 bR cP cR j7 j8 o0 o9 cT p9
   obtain ⟨j0, j6, j9, bR, cP, cR⟩ := cU.f2; obtain ⟨j7, j8, o0, o9, cT, p9⟩ := s9.f2
   obtain ⟨bJ, bK⟩ := b8.c2
   go_upto_region 7 with fail
   generalize (w2.alloc (.cells #[.int .u64 (lo Q : Int), .string (mo Q)] 37)).alloc (.cells #[.int .u64 (lo R : Int), .string (mo R)] 37) = w3 at *
   go_cut [35] (fun _ wc => GB W g h Y R wc)
   case first =>
    go_region
    all_goals
     go_wp2_with fail
     go_meet
     obtain ⟨s1, s2⟩ := Uc cU s9 aR (.int .u64 (lo Y : Int)) (.string (mo Y)) (.int .u64 (lo R : Int)) (.string (mo R))
     exact ⟨s1, s2, Jw ((((aH.setCell aS _).setCell aS _).setCell aT _).setCell aT _) 1⟩
   case rest =>
    have aJ : Blk W (w.heap.size + 1 + 1) 37 #[.int .u64 0, .string ⟨#[]⟩] := by assumption
    clear j0 j6 j9 bR cP cR j7 j8 o0 o9 cT p9
    clear cU s9 bJ bK b8 n5 n6 n7 n8 n9 bH cA aH b2 aI bI bY bZ
    obtain ⟨cU, s9, dB⟩ := hcut
    have aC := lh (fun w => Qn R w (by omega))
    unfold Jg at aC
    have b2 := aJ.below dB aJ.lt
    obtain ⟨j0, j6, j9, bR, cP, cR⟩ := cU.f2; obtain ⟨j7, j8, o0, o9, cT, p9⟩ := s9.f2
    have bL := Qv R
    go_wp2_with fail
    refine (aC.out _).mono ?_
    rintro e w1 ⟨rfl, dA⟩
    have cZ := Ja dB dA
    (try clear j0 j6 j9 bR cP cR); obtain ⟨cU, j0, j6, j9, bR, cP, cR⟩ := cU.zf2 dA; (try clear j7 j8 o0 o9 cT p9); obtain ⟨s9, j7, j8, o0, o9, cT, p9⟩ := s9.zf2 dA
    have b2 := b2.below dA b2.lt
    clear aC dA dB
    have aF := HR0.out
    have cB : ((Je R : Int) == 0) = false := by simp; have := bL.2 aF; omega
    have dD : (Je R == 0) = false := by simp; have := bL.2 aF; omega
    clear bL
    have aU := fun w => Jba Y w
    have aG := HYs.out
    have dC := fun w => Jba R w
    rw [if_pos aG] at aU
    rw [if_pos (show R < 18446744073709551616 by omega)] at dC
    unfold Jg at aU dC
    have HSM := lh aU
    have HSM2 := lh dC
    clear aU dC
    go_wp2_with fail
    refine (HSM.out _).mono ?_
    rintro e w3 ⟨rfl, aK⟩
    have aL := Ja cZ aK
    (try clear j0 j6 j9 bR cP cR); obtain ⟨cU, j0, j6, j9, bR, cP, cR⟩ := cU.zf2 aK; (try clear j7 j8 o0 o9 cT p9); obtain ⟨s9, j7, j8, o0, o9, cT, p9⟩ := s9.zf2 aK
    have b2 := b2.below aK b2.lt
    clear aK cZ
    go_wp2_with fail
    refine (HSM2.out _).mono ?_
    rintro e w4 ⟨rfl, bM⟩
    have aM := Ja aL bM
    have b2 := b2.below bM b2.lt
    clear j0 j6 j9 bR cP cR j7 j8 o0 o9 cT p9
    clear bM aL cU s9 cB dD HSM HSM2
    go_wp2_with fail
    go_loopw [10, 12] (fun p q wr => ∃ m n : Nat, m < 18446744073709551616 /\ n < 18446744073709551616 /\ p = .int .u64 (m : Int) /\ q = .int .u64 (n : Int) /\ Hid (Nat.gcd m n = GG) /\ Blk wr (w.heap.size + 1 + 1) 37 #[.int .u64 0, .string ⟨#[]⟩] /\ Below W.heap.size W wr) (fun _ q _ => (intOf q).toNat)
    case atStart => exact ⟨Y, R, aG, by omega, rfl, rfl, HGG, b2, aM⟩
    case round =>
     obtain ⟨m, n, hm, hn, rfl, rfl, hg, bN, bS⟩ := hrel
     clear b2 aM
     by_cases cD : 0 < n
     ·have cJ : (0 : Int) < (n : Int) := by omega
      have cK : ¬ (n : Int) = 0 := by omega
      have cL : (m : Int).tmod (n : Int) = ((m % n : Nat) : Int) := rfl
      have cN : (m : Int) % (n : Int) = ((m % n : Nat) : Int) := rfl
      have cO : m % n < n := Nat.mod_lt _ cD
      have k2 : IntKind.u64.wrap ((m % n : Nat) : Int) = ((m % n : Nat) : Int) := Jc _ (by omega) (by omega)
      have bH : Hid (Nat.gcd n (m % n) = GG) := lh (by rw [<- hg.out, Nat.gcd_comm m n, Nat.gcd_rec n m, Nat.gcd_comm])
      generalize m % n = r at *
      go_wp2_with fail
      go_region
      go_wp2
      exact ⟨⟨n, r, hn, by omega, rfl, rfl, bH, bN, Jw bS 1⟩, by simp [intOf]; omega⟩
     obtain rfl : n = 0 := by omega
     obtain rfl : m = GG := by rw [<- hg.out, Nat.gcd_zero_right]
     have bO := fun w => Je9 m w hm
     unfold Jg at bO
     have HOF := lh bO
     clear bO
     go_wp2_with fail
     refine (HOF.out _).mono ?_
     rintro e w5 ⟨rfl, cU⟩
     (try clear aN aO aP aQ aA aB); obtain ⟨bN, aN, aO, aP, aQ, aA, aB⟩ := bN.zf2 cU
     go_wp2
     refine bodyPost_ret (v := .agg #[.int .u64 (lo m : Int), .string (mo m)]) (by simp [results, Tryz.results80, go_sem, aA, aB]) rfl ?_
     exact ⟨rfl, Xo (Ja (Ja hB bS) cU) (by omega) _ _⟩
