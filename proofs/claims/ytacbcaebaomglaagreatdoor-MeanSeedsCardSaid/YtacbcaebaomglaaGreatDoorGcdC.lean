import Derived.Test.YtacbcaebaomglaaGreatDoorGcdPA
namespace Go.Proofs.YtacbcaebaomglaaGreatDoor
set_option maxRecDepth 100000
set_option maxHeartbeats 1000000
open Go.RowKit
set_option linter.all false
theorem Jha (x y : Int) (X Y : Nat) (w : World) (hx : Je x.natAbs <= 549755813888) (hy : Je y.natAbs <= 549755813888) (hT : Tab w) (hX : X = if x.natAbs < y.natAbs then y.natAbs else x.natAbs) (hY : Y = if x.natAbs < y.natAbs then x.natAbs else y.natAbs) (x9 : Y ≠ 0) (y9 : X % Y ≠ 0) (aA : Y < 18446744073709551616) :
  Calls Tryz.prog 74 #[Jx x, Jx y] w (Ret (Jh (Nat.gcd X Y)) w) := by
 have HY0 := lh x9
 have HR0 := lh y9
 have HYs := lh aA
 clear x9 y9 aA
 have bW : Je X <= 549755813888 := by rw [hX]; split <;> assumption
 have bX : Je Y <= 549755813888 := by rw [hY]; split <;> assumption
 have aO := lh (fun w => Zt x.natAbs y.natAbs w (by omega) (by omega))
 obtain ⟨GG, aP⟩ : ∃ GG, Nat.gcd X Y = GG := ⟨_, rfl⟩
 rw [aP]
 have HGG := lh aP
 clear aP
 have HXY := lh (And.intro hX hY)
 clear hX hY
 unfold Jx
 generalize hnx : decide (x < 0) = nx
 generalize hny : decide (y < 0) = ny
 clear hnx hny
 generalize x.natAbs = a at *
 generalize y.natAbs = b at *
 unfold Jh at aO ⊢
 obtain ⟨b0, b1, b2, hB, hZ⟩ := bx3 w 63 #[.bool nx, .int .u64 (lo a : Int), .string (mo a)] 63 #[.bool ny, .int .u64 (lo b : Int), .string (mo b)] 61 #[.int .u64 0, .string ⟨#[]⟩]
 have bY := hT.next hB
 go_enter Tryz.func74, Tryz.ntmps74
 go_upto_region 1 with fail
 generalize (((w.alloc (.cells #[.bool nx, .int .u64 (lo a : Int), .string (mo a)] 63)).alloc (.cells #[.bool ny, .int .u64 (lo b : Int), .string (mo b)] 63)).alloc (.cells #[.int .u64 0, .string ⟨#[]⟩] 61)) = W at *
 obtain ⟨aQ, aR, aS⟩ := b0.c3; obtain ⟨aT, aU, aV⟩ := b1.c3
 have bL := b0.lt
 have bM := b1.lt
 go_cut [5, 6] (fun v5 v6 wc => Jnt W a b v5 v6 wc)
 case first =>
  go_region
  all_goals
   go_wp2_with fail
   go_meet
   first
    | exact ⟨W.heap.size, W.heap.size + 1, rfl, rfl, by omega, by omega, by omega, (Blk.new W 61 #[.int .u64 (lo a : Int), .string (mo a)]).alloc _, Blk.new2 W _ 61 #[.int .u64 (lo b : Int), .string (mo b)], Jy (Jj W _ _) 1⟩
    | exact ⟨W.heap.size + 1, W.heap.size, rfl, rfl, by omega, by omega, by omega, Blk.new2 W _ 61 #[.int .u64 (lo a : Int), .string (mo a)], (Blk.new W 61 #[.int .u64 (lo b : Int), .string (mo b)]).alloc _, Jy (Jj W _ _) 1⟩
 case rest =>
  obtain ⟨g, h, rfl, rfl, aL, aM, aN, p7, p8, s9⟩ := hcut
  clear aQ aR aS aT aU aV b0 b1 bL bM
  have bN : ¬ h = g := fun e => aL e.symm
  have bO : ¬ g = h := aL
  obtain ⟨e8, e9⟩ := p7.c2; obtain ⟨j0, j6⟩ := p8.c2
  go_wp2_with fail
  refine (aO.out _).mono ?_
  rintro e w1 ⟨rfl, q8⟩
  have p9 := Ja s9 q8
  (try clear e8 e9 j7 j8 j9 o0); obtain ⟨p7, e8, e9, j7, j8, j9, o0⟩ := p7.zf2 q8; (try clear j0 j6 o6 o7 o8 o9); obtain ⟨p8, j0, j6, o6, o7, o8, o9⟩ := p8.zf2 q8
  obtain ⟨cv, aW⟩ : ∃ cv, Qx a b = cv := ⟨_, rfl⟩
  rw [aW]
  have bI : cv < 0 ↔ a < b := by
   rw [<- aW]
   unfold Qx
   split
   ·simp; assumption
   split <;> simp <;> omega
  have HCL := lh bI
  clear aW bI aO s9 q8
  go_upto_if 21 with fail
  go_cut [20] (fun _ wc => GB W g h X Y wc)
  case first =>
   by_cases t8 : a < b
   ·have aX : X = b /\ Y = a := by have := HXY.out; rw [if_pos t8, if_pos t8] at this; exact this
    obtain ⟨rfl, rfl⟩ := aX
    have bP := HCL.out.2 t8
    clear HXY HCL t8
    go_wp2
    go_meet
    obtain ⟨s1, s2⟩ := Ve p7 p8 aL (.int .u64 (lo X : Int)) (.string (mo X)) (.int .u64 (lo Y : Int)) (.string (mo Y))
    exact ⟨s1, s2, (((p9.setCell aM _).setCell aM _).setCell aN _).setCell aN _⟩
   have aX : X = a /\ Y = b := by have := HXY.out; rw [if_neg t8, if_neg t8] at this; exact this
   obtain ⟨rfl, rfl⟩ := aX
   have bP : ¬ cv < 0 := fun h => t8 (HCL.out.1 h)
   clear HXY HCL t8
   go_wp2
   go_meet
   exact ⟨p7, p8, p9⟩
  case rest =>
   clear e8 e9 j7 j8 j9 o0 j0 j6 o6 o7 o8 o9
   clear p7 p8 p9 HCL HXY
   obtain ⟨p7, p8, s9⟩ := hcut
   have x8 := lh (fun w => Qr Y w (by omega))
   unfold Jh at x8
   have b2 := b2.below s9 b2.lt
   obtain ⟨e8, e9, j7, j8, j9, o0⟩ := p7.f2; obtain ⟨j0, j6, o6, o7, o8, o9⟩ := p8.f2
   have aY := Qz Y
   have n1 : ¬ g = w.heap.size + 1 + 1 := by have := hZ.out; omega
   have n2 : ¬ w.heap.size + 1 + 1 = g := by have := hZ.out; omega
   have n3 : ¬ h = w.heap.size + 1 + 1 := by have := hZ.out; omega
   have n4 : ¬ w.heap.size + 1 + 1 = h := by have := hZ.out; omega
   go_wp2_with fail
   refine (x8.out _).mono ?_
   rintro e w1 ⟨rfl, q8⟩
   have p9 := Ja s9 q8
   (try clear e8 e9 j7 j8 j9 o0); obtain ⟨p7, e8, e9, j7, j8, j9, o0⟩ := p7.zf2 q8; (try clear j0 j6 o6 o7 o8 o9); obtain ⟨p8, j0, j6, o6, o7, o8, o9⟩ := p8.zf2 q8
   have b2 := b2.below q8 b2.lt
   clear x8 q8 s9
   have x9 := HY0.out
   have bQ : ((Je Y : Int) == 0) = false := by simp; have := aY.2 x9; omega
   have bR : (Je Y == 0) = false := by simp; have := aY.2 x9; omega
   have aZ := lh (fun w => Jdc X Y w x9 (by omega) (by omega))
   have bJ : Nat.gcd X Y = Nat.gcd Y (X % Y) := by rw [Nat.gcd_comm, Nat.gcd_rec, Nat.gcd_comm]
   rw [bJ] at HGG
   have bZ : Je (X % Y) <= Je Y := Jz (Nat.le_of_lt (Nat.mod_lt _ (by omega)))
   have cA : X % Y < Y := Nat.mod_lt _ (by omega)
   unfold Jh at aZ
   generalize X / Y = Q at *
   generalize X % Y = R at *
   clear bJ aY
   go_wp2_with fail
   refine (aZ.out _).mono ?_
   rintro e w2 ⟨rfl, y8⟩
   have aB := Ja (Ja p9 y8) (Jj w2 (.cells #[.int .u64 (lo Q : Int), .string (mo Q)] 61) (.cells #[.int .u64 (lo R : Int), .string (mo R)] 61))
   have b2 := ((b2.below y8 b2.lt).alloc (.cells #[.int .u64 (lo Q : Int), .string (mo Q)] 61)).alloc (.cells #[.int .u64 (lo R : Int), .string (mo R)] 61)
   have p7 := p7.below y8 p7.lt
   have p8 := p8.below y8 p8.lt
   have bA := p7.lt
   have bS := p8.lt
   have p7 := (p7.alloc (.cells #[.int .u64 (lo Q : Int), .string (mo Q)] 61)).alloc (.cells #[.int .u64 (lo R : Int), .string (mo R)] 61)
   have p8 := (p8.alloc (.cells #[.int .u64 (lo Q : Int), .string (mo Q)] 61)).alloc (.cells #[.int .u64 (lo R : Int), .string (mo R)] 61)
   have b8 := Blk.new2 w2 (.cells #[.int .u64 (lo Q : Int), .string (mo Q)] 61) 61 #[.int .u64 (lo R : Int), .string (mo R)]
   have n5 : ¬ w2.heap.size + 1 = g := by omega
   have n6 : ¬ w2.heap.size + 1 = h := by omega
   have n7 : ¬ g = w2.heap.size + 1 := by omega
   have n8 : ¬ h = w2.heap.size + 1 := by omega
   have aC := p9.size
   have bB := y8.size
   have n9 : ¬ w2.heap.size + 1 = w.heap.size + 1 + 1 := by have := hZ.out; omega
   clear y8 p9 aZ
   clear e8 e9 j7 j8 j9 o0 j0 j6 o6 o7 o8 o9
   obtain ⟨e8, e9, j7, j8, j9, o0⟩ := p7.f2; obtain ⟨j0, j6, o6, o7, o8, o9⟩ := p8.f2
   obtain ⟨bC, bD⟩ := b8.c2
   go_upto_region 7 with fail
   generalize (w2.alloc (.cells #[.int .u64 (lo Q : Int), .string (mo Q)] 61)).alloc (.cells #[.int .u64 (lo R : Int), .string (mo R)] 61) = w3 at *
   go_cut [35] (fun _ wc => GB W g h Y R wc)
   case first =>
    go_region
    all_goals
     go_wp2_with fail
     go_meet
     obtain ⟨s1, s2⟩ := Ve p7 p8 aL (.int .u64 (lo Y : Int)) (.string (mo Y)) (.int .u64 (lo R : Int)) (.string (mo R))
     exact ⟨s1, s2, Jy ((((aB.setCell aM _).setCell aM _).setCell aN _).setCell aN _) 1⟩
   case rest =>
    have aD : Blk W (w.heap.size + 1 + 1) 61 #[.int .u64 0, .string ⟨#[]⟩] := by assumption
    clear e8 e9 j7 j8 j9 o0 j0 j6 o6 o7 o8 o9
    clear p7 p8 bC bD b8 n5 n6 n7 n8 n9 bA bS aB b2 aC bB bQ bR
    obtain ⟨p7, p8, s9⟩ := hcut
    have x8 := lh (fun w => Qr R w (by omega))
    unfold Jh at x8
    have b2 := aD.below s9 aD.lt
    obtain ⟨e8, e9, j7, j8, j9, o0⟩ := p7.f2; obtain ⟨j0, j6, o6, o7, o8, o9⟩ := p8.f2
    have bE := Qz R
    go_wp2_with fail
    refine (x8.out _).mono ?_
    rintro e w1 ⟨rfl, q8⟩
    have p9 := Ja s9 q8
    (try clear e8 e9 j7 j8 j9 o0); obtain ⟨p7, e8, e9, j7, j8, j9, o0⟩ := p7.zf2 q8; (try clear j0 j6 o6 o7 o8 o9); obtain ⟨p8, j0, j6, o6, o7, o8, o9⟩ := p8.zf2 q8
    have b2 := b2.below q8 b2.lt
    clear x8 q8 s9
    have y9 := HR0.out
    have bT : ((Je R : Int) == 0) = false := by simp; have := bE.2 y9; omega
    have bU : (Je R == 0) = false := by simp; have := bE.2 y9; omega
    clear bE
    have hsm := fun w => Jcd Y w
    have aA := HYs.out
    have t7 := fun w => Jcd R w
    rw [if_pos aA] at hsm
    rw [if_pos (show R < 18446744073709551616 by omega)] at t7
    unfold Jh at hsm t7
    have HSM := lh hsm
    have HSM2 := lh t7
    clear hsm t7
    go_wp2_with fail
    refine (HSM.out _).mono ?_
    rintro e w3 ⟨rfl, aE⟩
    have aF := Ja p9 aE
    (try clear e8 e9 j7 j8 j9 o0); obtain ⟨p7, e8, e9, j7, j8, j9, o0⟩ := p7.zf2 aE; (try clear j0 j6 o6 o7 o8 o9); obtain ⟨p8, j0, j6, o6, o7, o8, o9⟩ := p8.zf2 aE
    have b2 := b2.below aE b2.lt
    clear aE p9
    go_wp2_with fail
    refine (HSM2.out _).mono ?_
    rintro e w4 ⟨rfl, bF⟩
    have aG := Ja aF bF
    have b2 := b2.below bF b2.lt
    clear e8 e9 j7 j8 j9 o0 j0 j6 o6 o7 o8 o9
    clear bF aF p7 p8 bT bU HSM HSM2
    go_wp2_with fail
    go_loopw [10, 12] (fun p q wr => ∃ m n : Nat, m < 18446744073709551616 /\ n < 18446744073709551616 /\ p = .int .u64 (m : Int) /\ q = .int .u64 (n : Int) /\ Hid (Nat.gcd m n = GG) /\ Blk wr (w.heap.size + 1 + 1) 61 #[.int .u64 0, .string ⟨#[]⟩] /\ Below W.heap.size W wr) (fun _ q _ => (intOf q).toNat)
    case atStart => exact ⟨Y, R, aA, by omega, rfl, rfl, HGG, b2, aG⟩
    case round =>
     obtain ⟨m, n, hm, hn, rfl, rfl, hg, bG, bK⟩ := hrel
     clear b2 aG
     by_cases bV : 0 < n
     ·have cB : (0 : Int) < (n : Int) := by omega
      have hn2 : ¬ (n : Int) = 0 := by omega
      have cC : (m : Int).tmod (n : Int) = ((m % n : Nat) : Int) := rfl
      have cD : (m : Int) % (n : Int) = ((m % n : Nat) : Int) := rfl
      have cE : m % n < n := Nat.mod_lt _ bV
      have k2 : IntKind.u64.wrap ((m % n : Nat) : Int) = ((m % n : Nat) : Int) := Jd _ (by omega) (by omega)
      have bA : Hid (Nat.gcd n (m % n) = GG) := lh (by rw [<- hg.out, Nat.gcd_comm m n, Nat.gcd_rec n m, Nat.gcd_comm])
      generalize m % n = r at *
      go_wp2_with fail
      go_region
      go_wp2
      exact ⟨⟨n, r, hn, by omega, rfl, rfl, bA, bG, Jy bK 1⟩, by simp [intOf]; omega⟩
     obtain rfl : n = 0 := by omega
     obtain rfl : m = GG := by rw [<- hg.out, Nat.gcd_zero_right]
     have bH := fun w => Jgj m w hm
     unfold Jh at bH
     have HOF := lh bH
     clear bH
     go_wp2_with fail
     refine (HOF.out _).mono ?_
     rintro e w5 ⟨rfl, p7⟩
     (try clear aH aI aJ aK u4 x7); obtain ⟨bG, aH, aI, aJ, aK, u4, x7⟩ := bG.zf2 p7
     go_wp2
     refine bodyPost_ret (v := .agg #[.int .u64 (lo m : Int), .string (mo m)]) (by simp [results, Tryz.results74, go_sem, u4, x7]) rfl ?_
     exact ⟨rfl, Za (Ja (Ja hB bK) p7) (by omega) _ _⟩
