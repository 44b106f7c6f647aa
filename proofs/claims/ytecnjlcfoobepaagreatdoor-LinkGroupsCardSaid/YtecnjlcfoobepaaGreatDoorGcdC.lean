import Derived.Test.YtecnjlcfoobepaaGreatDoorGcdPA
namespace Go.Proofs.YtecnjlcfoobepaaGreatDoor
set_option maxRecDepth 100000
set_option maxHeartbeats 1000000
open Go.RowKit
set_option linter.all false
theorem Jid (x y : Int) (X Y : Nat) (w : World) (hx : Je x.natAbs <= 549755813888) (hy : Je y.natAbs <= 549755813888) (hT : Tab w) (hX : X = if x.natAbs < y.natAbs then y.natAbs else x.natAbs) (hY : Y = if x.natAbs < y.natAbs then x.natAbs else y.natAbs) (aJ : Y ≠ 0) (aL : X % Y ≠ 0) (aM : Y < 18446744073709551616) :
  Calls Tryz.prog 79 #[Qa x, Qa y] w (Ret (Jj (Nat.gcd X Y)) w) := by
 have HY0 := lh aJ
 have HR0 := lh aL
 have HYs := lh aM
 clear aJ aL aM
 have cJ : Je X <= 549755813888 := by rw [hX]; split <;> assumption
 have cK : Je Y <= 549755813888 := by rw [hY]; split <;> assumption
 have bB := lh (fun w => Zr x.natAbs y.natAbs w (by omega) (by omega))
 obtain ⟨GG, bC⟩ : ∃ GG, Nat.gcd X Y = GG := ⟨_, rfl⟩
 rw [bC]
 have HGG := lh bC
 clear bC
 have HXY := lh (And.intro hX hY)
 clear hX hY
 unfold Qa
 generalize hnx : decide (x < 0) = nx
 generalize hny : decide (y < 0) = ny
 clear hnx hny
 generalize x.natAbs = a at *
 generalize y.natAbs = b at *
 unfold Jj at bB ⊢
 obtain ⟨b0, b1, b2, hB, hZ⟩ := bx3 w 54 #[.bool nx, .int .u64 (lo a : Int), .string (mo a)] 54 #[.bool ny, .int .u64 (lo b : Int), .string (mo b)] 52 #[.int .u64 0, .string ⟨#[]⟩]
 have cL := hT.next hB
 go_enter Tryz.func79, Tryz.ntmps79
 go_upto_region 1 with fail
 generalize (((w.alloc (.cells #[.bool nx, .int .u64 (lo a : Int), .string (mo a)] 54)).alloc (.cells #[.bool ny, .int .u64 (lo b : Int), .string (mo b)] 54)).alloc (.cells #[.int .u64 0, .string ⟨#[]⟩] 52)) = W at *
 obtain ⟨bD, bE, bF⟩ := b0.c3; obtain ⟨bG, bH, bI⟩ := b1.c3
 have bY := b0.lt
 have bZ := b1.lt
 go_cut [5, 6] (fun v5 v6 wc => Jrp W a b v5 v6 wc)
 case first =>
  go_region
  all_goals
   go_wp2_with fail
   go_meet
   first
    | exact ⟨W.heap.size, W.heap.size + 1, rfl, rfl, by omega, by omega, by omega, (Blk.new W 52 #[.int .u64 (lo a : Int), .string (mo a)]).alloc _, Blk.new2 W _ 52 #[.int .u64 (lo b : Int), .string (mo b)], Jz (Jl W _ _) 1⟩
    | exact ⟨W.heap.size + 1, W.heap.size, rfl, rfl, by omega, by omega, by omega, Blk.new2 W _ 52 #[.int .u64 (lo a : Int), .string (mo a)], (Blk.new W 52 #[.int .u64 (lo b : Int), .string (mo b)]).alloc _, Jz (Jl W _ _) 1⟩
 case rest =>
  obtain ⟨g, h, rfl, rfl, aX, aY, aZ, y9, aA, aD⟩ := hcut
  clear bD bE bF bG bH bI b0 b1 bY bZ
  have cA : ¬ h = g := fun e => aX e.symm
  have cB : ¬ g = h := aX
  obtain ⟨j6, j7⟩ := y9.c2; obtain ⟨j8, j9⟩ := aA.c2
  go_wp2_with fail
  refine (bB.out _).mono ?_
  rintro e w1 ⟨rfl, aC⟩
  have aB := Ja aD aC
  (try clear j6 j7 o0 o5 s9 t7); obtain ⟨y9, j6, j7, o0, o5, s9, t7⟩ := y9.zf2 aC; (try clear j8 j9 t8 x8 x9 y8); obtain ⟨aA, j8, j9, t8, x8, x9, y8⟩ := aA.zf2 aC
  obtain ⟨cv, bJ⟩ : ∃ cv, Xd a b = cv := ⟨_, rfl⟩
  rw [bJ]
  have bV : cv < 0 ↔ a < b := by
   rw [<- bJ]
   unfold Xd
   split
   ·simp; assumption
   split <;> simp <;> omega
  have HCL := lh bV
  clear bJ bV bB aD aC
  go_upto_if 21 with fail
  go_cut [20] (fun _ wc => GB W g h X Y wc)
  case first =>
   by_cases aF : a < b
   ·have bK : X = b /\ Y = a := by have := HXY.out; rw [if_pos aF, if_pos aF] at this; exact this
    obtain ⟨rfl, rfl⟩ := bK
    have cC := HCL.out.2 aF
    clear HXY HCL aF
    go_wp2
    go_meet
    obtain ⟨s1, s2⟩ := Vl y9 aA aX (.int .u64 (lo X : Int)) (.string (mo X)) (.int .u64 (lo Y : Int)) (.string (mo Y))
    exact ⟨s1, s2, (((aB.setCell aY _).setCell aY _).setCell aZ _).setCell aZ _⟩
   have bK : X = a /\ Y = b := by have := HXY.out; rw [if_neg aF, if_neg aF] at this; exact this
   obtain ⟨rfl, rfl⟩ := bK
   have cC : ¬ cv < 0 := fun h => aF (HCL.out.1 h)
   clear HXY HCL aF
   go_wp2
   go_meet
   exact ⟨y9, aA, aB⟩
  case rest =>
   clear j6 j7 o0 o5 s9 t7 j8 j9 t8 x8 x9 y8
   clear y9 aA aB HCL HXY
   obtain ⟨y9, aA, aD⟩ := hcut
   have aI := lh (fun w => Qx Y w (by omega))
   unfold Jj at aI
   have b2 := b2.below aD b2.lt
   obtain ⟨j6, j7, o0, o5, s9, t7⟩ := y9.f2; obtain ⟨j8, j9, t8, x8, x9, y8⟩ := aA.f2
   have bL := Xe Y
   have n1 : ¬ g = w.heap.size + 1 + 1 := by have := hZ.out; omega
   have n2 : ¬ w.heap.size + 1 + 1 = g := by have := hZ.out; omega
   have n3 : ¬ h = w.heap.size + 1 + 1 := by have := hZ.out; omega
   have n4 : ¬ w.heap.size + 1 + 1 = h := by have := hZ.out; omega
   go_wp2_with fail
   refine (aI.out _).mono ?_
   rintro e w1 ⟨rfl, aC⟩
   have aB := Ja aD aC
   (try clear j6 j7 o0 o5 s9 t7); obtain ⟨y9, j6, j7, o0, o5, s9, t7⟩ := y9.zf2 aC; (try clear j8 j9 t8 x8 x9 y8); obtain ⟨aA, j8, j9, t8, x8, x9, y8⟩ := aA.zf2 aC
   have b2 := b2.below aC b2.lt
   clear aI aC aD
   have aJ := HY0.out
   have cD : ((Je Y : Int) == 0) = false := by simp; have := bL.2 aJ; omega
   have cE : (Je Y == 0) = false := by simp; have := bL.2 aJ; omega
   have bM := lh (fun w => Jdw X Y w aJ (by omega) (by omega))
   have bW : Nat.gcd X Y = Nat.gcd Y (X % Y) := by rw [Nat.gcd_comm, Nat.gcd_rec, Nat.gcd_comm]
   rw [bW] at HGG
   have cM : Je (X % Y) <= Je Y := Qb (Nat.le_of_lt (Nat.mod_lt _ (by omega)))
   have cN : X % Y < Y := Nat.mod_lt _ (by omega)
   unfold Jj at bM
   generalize X / Y = Q at *
   generalize X % Y = R at *
   clear bW bL
   go_wp2_with fail
   refine (bM.out _).mono ?_
   rintro e w2 ⟨rfl, aK⟩
   have aN := Ja (Ja aB aK) (Jl w2 (.cells #[.int .u64 (lo Q : Int), .string (mo Q)] 52) (.cells #[.int .u64 (lo R : Int), .string (mo R)] 52))
   have b2 := ((b2.below aK b2.lt).alloc (.cells #[.int .u64 (lo Q : Int), .string (mo Q)] 52)).alloc (.cells #[.int .u64 (lo R : Int), .string (mo R)] 52)
   have y9 := y9.below aK y9.lt
   have aA := aA.below aK aA.lt
   have bN := y9.lt
   have cF := aA.lt
   have y9 := (y9.alloc (.cells #[.int .u64 (lo Q : Int), .string (mo Q)] 52)).alloc (.cells #[.int .u64 (lo R : Int), .string (mo R)] 52)
   have aA := (aA.alloc (.cells #[.int .u64 (lo Q : Int), .string (mo Q)] 52)).alloc (.cells #[.int .u64 (lo R : Int), .string (mo R)] 52)
   have b8 := Blk.new2 w2 (.cells #[.int .u64 (lo Q : Int), .string (mo Q)] 52) 52 #[.int .u64 (lo R : Int), .string (mo R)]
   have n5 : ¬ w2.heap.size + 1 = g := by omega
   have n6 : ¬ w2.heap.size + 1 = h := by omega
   have n7 : ¬ g = w2.heap.size + 1 := by omega
   have n8 : ¬ h = w2.heap.size + 1 := by omega
   have aO := aB.size
   have bO := aK.size
   have n9 : ¬ w2.heap.size + 1 = w.heap.size + 1 + 1 := by have := hZ.out; omega
   clear aK aB bM
   clear j6 j7 o0 o5 s9 t7 j8 j9 t8 x8 x9 y8
   obtain ⟨j6, j7, o0, o5, s9, t7⟩ := y9.f2; obtain ⟨j8, j9, t8, x8, x9, y8⟩ := aA.f2
   obtain ⟨bP, bQ⟩ := b8.c2
   go_upto_region 7 with fail
   generalize (w2.alloc (.cells #[.int .u64 (lo Q : Int), .string (mo Q)] 52)).alloc (.cells #[.int .u64 (lo R : Int), .string (mo R)] 52) = w3 at *
   go_cut [35] (fun _ wc => GB W g h Y R wc)
   case first =>
    go_region
    all_goals
     go_wp2_with fail
     go_meet
     obtain ⟨s1, s2⟩ := Vl y9 aA aX (.int .u64 (lo Y : Int)) (.string (mo Y)) (.int .u64 (lo R : Int)) (.string (mo R))
     exact ⟨s1, s2, Jz ((((aN.setCell aY _).setCell aY _).setCell aZ _).setCell aZ _) 1⟩
   case rest =>
    have aP : Blk W (w.heap.size + 1 + 1) 52 #[.int .u64 0, .string ⟨#[]⟩] := by assumption
    clear j6 j7 o0 o5 s9 t7 j8 j9 t8 x8 x9 y8
    clear y9 aA bP bQ b8 n5 n6 n7 n8 n9 bN cF aN b2 aO bO cD cE
    obtain ⟨y9, aA, aD⟩ := hcut
    have aI := lh (fun w => Qx R w (by omega))
    unfold Jj at aI
    have b2 := aP.below aD aP.lt
    obtain ⟨j6, j7, o0, o5, s9, t7⟩ := y9.f2; obtain ⟨j8, j9, t8, x8, x9, y8⟩ := aA.f2
    have bR := Xe R
    go_wp2_with fail
    refine (aI.out _).mono ?_
    rintro e w1 ⟨rfl, aC⟩
    have aB := Ja aD aC
    (try clear j6 j7 o0 o5 s9 t7); obtain ⟨y9, j6, j7, o0, o5, s9, t7⟩ := y9.zf2 aC; (try clear j8 j9 t8 x8 x9 y8); obtain ⟨aA, j8, j9, t8, x8, x9, y8⟩ := aA.zf2 aC
    have b2 := b2.below aC b2.lt
    clear aI aC aD
    have aL := HR0.out
    have cG : ((Je R : Int) == 0) = false := by simp; have := bR.2 aL; omega
    have cH : (Je R == 0) = false := by simp; have := bR.2 aL; omega
    clear bR
    have bA := fun w => Jcz Y w
    have aM := HYs.out
    have aE := fun w => Jcz R w
    rw [if_pos aM] at bA
    rw [if_pos (show R < 18446744073709551616 by omega)] at aE
    unfold Jj at bA aE
    have HSM := lh bA
    have HSM2 := lh aE
    clear bA aE
    go_wp2_with fail
    refine (HSM.out _).mono ?_
    rintro e w3 ⟨rfl, aQ⟩
    have aR := Ja aB aQ
    (try clear j6 j7 o0 o5 s9 t7); obtain ⟨y9, j6, j7, o0, o5, s9, t7⟩ := y9.zf2 aQ; (try clear j8 j9 t8 x8 x9 y8); obtain ⟨aA, j8, j9, t8, x8, x9, y8⟩ := aA.zf2 aQ
    have b2 := b2.below aQ b2.lt
    clear aQ aB
    go_wp2_with fail
    refine (HSM2.out _).mono ?_
    rintro e w4 ⟨rfl, bS⟩
    have aS := Ja aR bS
    have b2 := b2.below bS b2.lt
    clear j6 j7 o0 o5 s9 t7 j8 j9 t8 x8 x9 y8
    clear bS aR y9 aA cG cH HSM HSM2
    go_wp2_with fail
    go_loopw [10, 12] (fun p q wr => ∃ m n : Nat, m < 18446744073709551616 /\ n < 18446744073709551616 /\ p = .int .u64 (m : Int) /\ q = .int .u64 (n : Int) /\ Hid (Nat.gcd m n = GG) /\ Blk wr (w.heap.size + 1 + 1) 52 #[.int .u64 0, .string ⟨#[]⟩] /\ Below W.heap.size W wr) (fun _ q _ => (intOf q).toNat)
    case atStart => exact ⟨Y, R, aM, by omega, rfl, rfl, HGG, b2, aS⟩
    case round =>
     obtain ⟨m, n, hm, hn, rfl, rfl, hg, bT, bX⟩ := hrel
     clear b2 aS
     by_cases cI : 0 < n
     ·have cO : (0 : Int) < (n : Int) := by omega
      have cP : ¬ (n : Int) = 0 := by omega
      have cQ : (m : Int).tmod (n : Int) = ((m % n : Nat) : Int) := rfl
      have cR : (m : Int) % (n : Int) = ((m % n : Nat) : Int) := rfl
      have cS : m % n < n := Nat.mod_lt _ cI
      have k2 : IntKind.u64.wrap ((m % n : Nat) : Int) = ((m % n : Nat) : Int) := Jd _ (by omega) (by omega)
      have bN : Hid (Nat.gcd n (m % n) = GG) := lh (by rw [<- hg.out, Nat.gcd_comm m n, Nat.gcd_rec n m, Nat.gcd_comm])
      generalize m % n = r at *
      go_wp2_with fail
      go_region
      go_wp2
      exact ⟨⟨n, r, hn, by omega, rfl, rfl, bN, bT, Jz bX 1⟩, by simp [intOf]; omega⟩
     obtain rfl : n = 0 := by omega
     obtain rfl : m = GG := by rw [<- hg.out, Nat.gcd_zero_right]
     have bU := fun w => Jhj m w hm
     unfold Jj at bU
     have HOF := lh bU
     clear bU
     go_wp2_with fail
     refine (HOF.out _).mono ?_
     rintro e w5 ⟨rfl, y9⟩
     (try clear aT aU aV aW aG aH); obtain ⟨bT, aT, aU, aV, aW, aG, aH⟩ := bT.zf2 y9
     go_wp2
     refine bodyPost_ret (v := .agg #[.int .u64 (lo m : Int), .string (mo m)]) (by simp [results, Tryz.results79, go_sem, aG, aH]) rfl ?_
     exact ⟨rfl, Xz (Ja (Ja hB bX) y9) (by omega) _ _⟩
