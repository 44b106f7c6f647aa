import Derived.Test.YtecnjlcfoobepaaGreatDoorGcdB
import Derived.Test.YtecnjlcfoobepaaGreatDoorGcdC
namespace Go.Proofs.YtecnjlcfoobepaaGreatDoor
set_option maxRecDepth 100000
set_option maxHeartbeats 1000000
open Go.RowKit
set_option linter.all false
theorem Jic (x y : Int) (X Y : Nat) (w : World) (hx : Je x.natAbs <= 549755813888) (hy : Je y.natAbs <= 549755813888) (hT : Tab w) (hX : X = if x.natAbs < y.natAbs then y.natAbs else x.natAbs) (hY : Y = if x.natAbs < y.natAbs then x.natAbs else y.natAbs) (aD : Y ≠ 0) (aE : X % Y ≠ 0) (aH : ¬ Y < 18446744073709551616) :
  Calls Tryz.prog 79 #[Qa x, Qa y] w (Ret (Jj (Nat.gcd X Y)) w) := by
 have HY0 := lh aD
 have HR0 := lh aE
 have HYs := lh aH
 clear aD aE aH
 have cE : Je X <= 549755813888 := by rw [hX]; split <;> assumption
 have cF : Je Y <= 549755813888 := by rw [hY]; split <;> assumption
 have aW := lh (fun w => Zr x.natAbs y.natAbs w (by omega) (by omega))
 obtain ⟨GG, aX⟩ : ∃ GG, Nat.gcd X Y = GG := ⟨_, rfl⟩
 rw [aX]
 have HGG := lh aX
 clear aX
 have HXY := lh (And.intro hX hY)
 clear hX hY
 unfold Qa
 generalize hnx : decide (x < 0) = nx
 generalize hny : decide (y < 0) = ny
 clear hnx hny
 generalize x.natAbs = a at *
 generalize y.natAbs = b at *
 unfold Jj at aW ⊢
 obtain ⟨b0, b1, b2, hB, hZ⟩ := bx3 w 54 #[.bool nx, .int .u64 (lo a : Int), .string (mo a)] 54 #[.bool ny, .int .u64 (lo b : Int), .string (mo b)] 52 #[.int .u64 0, .string ⟨#[]⟩]
 have bU := hT.next hB
 go_enter Tryz.func79, Tryz.ntmps79
 go_upto_region 1 with fail
 generalize (((w.alloc (.cells #[.bool nx, .int .u64 (lo a : Int), .string (mo a)] 54)).alloc (.cells #[.bool ny, .int .u64 (lo b : Int), .string (mo b)] 54)).alloc (.cells #[.int .u64 0, .string ⟨#[]⟩] 52)) = W at *
 obtain ⟨aY, aZ, bA⟩ := b0.c3; obtain ⟨bB, bC, bD⟩ := b1.c3
 have bV := b0.lt
 have bW := b1.lt
 go_cut [5, 6] (fun v5 v6 wc => Jrp W a b v5 v6 wc)
 case first =>
  go_region
  all_goals
   go_wp2_with fail
   go_meet
   first
    | exact ⟨W.heap.size, W.heap.size + 1, rfl, rfl, by omega, by omega, by omega, (Blk.new W 52 #[.int .u64 (lo a : Int), .string (mo a)]).alloc _, Blk.new2 W _ 52 #[.int .u64 (lo b : Int), .string (mo b)], Jz (Jl W _ _) 1⟩
    | exact ⟨W.heap.size + 1, W.heap.size, rfl, rfl, by omega, by omega, by omega, Blk.new2 W _ 52 #[.int .u64 (lo a : Int), .string (mo a)], (Blk.new W 52 #[.int .u64 (lo b : Int), .string (mo b)]).alloc _, Jz (Jl W _ _) 1⟩
 case rest =>
  obtain ⟨g, h, rfl, rfl, aR, aS, aT, y9, aA, aF⟩ := hcut
  clear aY aZ bA bB bC bD b0 b1 bV bW
  have bX : ¬ h = g := fun e => aR e.symm
  have bY : ¬ g = h := aR
  obtain ⟨j6, j7⟩ := y9.c2; obtain ⟨j8, j9⟩ := aA.c2
  go_wp2_with fail
  refine (aW.out _).mono ?_
  rintro e w1 ⟨rfl, aC⟩
  have aB := Ja aF aC
  (try clear j6 j7 o0 o5 s9 t7); obtain ⟨y9, j6, j7, o0, o5, s9, t7⟩ := y9.zf2 aC; (try clear j8 j9 t8 x8 x9 y8); obtain ⟨aA, j8, j9, t8, x8, x9, y8⟩ := aA.zf2 aC
  obtain ⟨cv, bE⟩ : ∃ cv, Xd a b = cv := ⟨_, rfl⟩
  rw [bE]
  have bR : cv < 0 ↔ a < b := by
   rw [<- bE]
   unfold Xd
   split
   ·simp; assumption
   split <;> simp <;> omega
  have HCL := lh bR
  clear bE bR aW aF aC
  go_upto_if 21 with fail
  go_cut [20] (fun _ wc => GB W g h X Y wc)
  case first =>
   by_cases aG : a < b
   ·have bF : X = b /\ Y = a := by have := HXY.out; rw [if_pos aG, if_pos aG] at this; exact this
    obtain ⟨rfl, rfl⟩ := bF
    have bZ := HCL.out.2 aG
    clear HXY HCL aG
    go_wp2
    go_meet
    obtain ⟨s1, s2⟩ := Vl y9 aA aR (.int .u64 (lo X : Int)) (.string (mo X)) (.int .u64 (lo Y : Int)) (.string (mo Y))
    exact ⟨s1, s2, (((aB.setCell aS _).setCell aS _).setCell aT _).setCell aT _⟩
   have bF : X = a /\ Y = b := by have := HXY.out; rw [if_neg aG, if_neg aG] at this; exact this
   obtain ⟨rfl, rfl⟩ := bF
   have bZ : ¬ cv < 0 := fun h => aG (HCL.out.1 h)
   clear HXY HCL aG
   go_wp2
   go_meet
   exact ⟨y9, aA, aB⟩
  case rest =>
   clear j6 j7 o0 o5 s9 t7 j8 j9 t8 x8 x9 y8
   clear y9 aA aB HCL HXY
   obtain ⟨y9, aA, aF⟩ := hcut
   have aI := lh (fun w => Qx Y w (by omega))
   unfold Jj at aI
   have b2 := b2.below aF b2.lt
   obtain ⟨j6, j7, o0, o5, s9, t7⟩ := y9.f2; obtain ⟨j8, j9, t8, x8, x9, y8⟩ := aA.f2
   have bG := Xe Y
   have n1 : ¬ g = w.heap.size + 1 + 1 := by have := hZ.out; omega
   have n2 : ¬ w.heap.size + 1 + 1 = g := by have := hZ.out; omega
   have n3 : ¬ h = w.heap.size + 1 + 1 := by have := hZ.out; omega
   have n4 : ¬ w.heap.size + 1 + 1 = h := by have := hZ.out; omega
   go_wp2_with fail
   refine (aI.out _).mono ?_
   rintro e w1 ⟨rfl, aC⟩
   have aB := Ja aF aC
   (try clear j6 j7 o0 o5 s9 t7); obtain ⟨y9, j6, j7, o0, o5, s9, t7⟩ := y9.zf2 aC; (try clear j8 j9 t8 x8 x9 y8); obtain ⟨aA, j8, j9, t8, x8, x9, y8⟩ := aA.zf2 aC
   have b2 := b2.below aC b2.lt
   clear aI aC aF
   have aD := HY0.out
   have cA : ((Je Y : Int) == 0) = false := by simp; have := bG.2 aD; omega
   have cB : (Je Y == 0) = false := by simp; have := bG.2 aD; omega
   have bH := lh (fun w => Jdw X Y w aD (by omega) (by omega))
   have bS : Nat.gcd X Y = Nat.gcd Y (X % Y) := by rw [Nat.gcd_comm, Nat.gcd_rec, Nat.gcd_comm]
   rw [bS] at HGG
   have cG : Je (X % Y) <= Je Y := Qb (Nat.le_of_lt (Nat.mod_lt _ (by omega)))
   have cH : X % Y < Y := Nat.mod_lt _ (by omega)
   unfold Jj at bH
   generalize X / Y = Q at *
   generalize X % Y = R at *
   clear bS bG
   go_wp2_with fail
   refine (bH.out _).mono ?_
   rintro e w2 ⟨rfl, aJ⟩
   have aK := Ja (Ja aB aJ) (Jl w2 (.cells #[.int .u64 (lo Q : Int), .string (mo Q)] 52) (.cells #[.int .u64 (lo R : Int), .string (mo R)] 52))
   have b2 := ((b2.below aJ b2.lt).alloc (.cells #[.int .u64 (lo Q : Int), .string (mo Q)] 52)).alloc (.cells #[.int .u64 (lo R : Int), .string (mo R)] 52)
   have y9 := y9.below aJ y9.lt
   have aA := aA.below aJ aA.lt
   have cC := y9.lt
   have cD := aA.lt
   have y9 := (y9.alloc (.cells #[.int .u64 (lo Q : Int), .string (mo Q)] 52)).alloc (.cells #[.int .u64 (lo R : Int), .string (mo R)] 52)
   have aA := (aA.alloc (.cells #[.int .u64 (lo Q : Int), .string (mo Q)] 52)).alloc (.cells #[.int .u64 (lo R : Int), .string (mo R)] 52)
   have b8 := Blk.new2 w2 (.cells #[.int .u64 (lo Q : Int), .string (mo Q)] 52) 52 #[.int .u64 (lo R : Int), .string (mo R)]
   have n5 : ¬ w2.heap.size + 1 = g := by omega
   have n6 : ¬ w2.heap.size + 1 = h := by omega
   have n7 : ¬ g = w2.heap.size + 1 := by omega
   have n8 : ¬ h = w2.heap.size + 1 := by omega
   have aL := aB.size
   have bI := aJ.size
   have n9 : ¬ w2.heap.size + 1 = w.heap.size + 1 + 1 := by have := hZ.out; omega
   clear aJ aB bH
   clear j6 j7 o0 o5 s9 t7 j8 j9 t8 x8 x9 y8
   obtain ⟨j6, j7, o0, o5, s9, t7⟩ := y9.f2; obtain ⟨j8, j9, t8, x8, x9, y8⟩ := aA.f2
   obtain ⟨bJ, bK⟩ := b8.c2
   go_upto_region 7 with fail
   generalize (w2.alloc (.cells #[.int .u64 (lo Q : Int), .string (mo Q)] 52)).alloc (.cells #[.int .u64 (lo R : Int), .string (mo R)] 52) = w3 at *
   go_cut [35] (fun _ wc => GB W g h Y R wc)
   case first =>
    go_region
    all_goals
     go_wp2_with fail
     go_meet
     obtain ⟨s1, s2⟩ := Vl y9 aA aR (.int .u64 (lo Y : Int)) (.string (mo Y)) (.int .u64 (lo R : Int)) (.string (mo R))
     exact ⟨s1, s2, Jz ((((aK.setCell aS _).setCell aS _).setCell aT _).setCell aT _) 1⟩
   case rest =>
    have aM : Blk W (w.heap.size + 1 + 1) 52 #[.int .u64 0, .string ⟨#[]⟩] := by assumption
    clear j6 j7 o0 o5 s9 t7 j8 j9 t8 x8 x9 y8
    clear y9 aA bJ bK b8 n5 n6 n7 n8 n9 cC cD aK b2 aL bI cA cB
    obtain ⟨y9, aA, aF⟩ := hcut
    have aI := lh (fun w => Qx R w (by omega))
    unfold Jj at aI
    have b2 := aM.below aF aM.lt
    obtain ⟨j6, j7, o0, o5, s9, t7⟩ := y9.f2; obtain ⟨j8, j9, t8, x8, x9, y8⟩ := aA.f2
    have bL := Xe R
    go_wp2_with fail
    refine (aI.out _).mono ?_
    rintro e w1 ⟨rfl, aC⟩
    have aB := Ja aF aC
    (try clear j6 j7 o0 o5 s9 t7); obtain ⟨y9, j6, j7, o0, o5, s9, t7⟩ := y9.zf2 aC; (try clear j8 j9 t8 x8 x9 y8); obtain ⟨aA, j8, j9, t8, x8, x9, y8⟩ := aA.zf2 aC
    have b2 := b2.below aC b2.lt
    clear aI aC aF
    have aE := HR0.out
    have cI : ((Je R : Int) == 0) = false := by simp; have := bL.2 aE; omega
    have cJ : (Je R == 0) = false := by simp; have := bL.2 aE; omega
    clear bL
    have aU := fun w => Jcz Y w
    have aH := HYs.out
    rw [if_neg aH] at aU
    have aV := fun w (hT : Tab w) => Jg3 Y R w (by omega) aE (by omega) (by omega) hT
    rw [HGG.out] at aV
    unfold Jj at aU aV
    have HSM := lh aU
    have HBN := lh aV
    clear aU aV
    go_wp2_with fail
    refine (HSM.out _).mono ?_
    rintro e w3 ⟨rfl, aN⟩
    have aO := Ja aB aN
    (try clear j6 j7 o0 o5 s9 t7); obtain ⟨y9, j6, j7, o0, o5, s9, t7⟩ := y9.zf2 aN; (try clear j8 j9 t8 x8 x9 y8); obtain ⟨aA, j8, j9, t8, x8, x9, y8⟩ := aA.zf2 aN
    have b2 := b2.below aN b2.lt
    clear aN aB
    go_wp2_with fail
    refine (HBN.out _ (bU.next aO)).mono ?_
    rintro e w4 ⟨rfl, bT⟩
    have bM := Ja aO bT
    (try clear bN bO bP bQ aP aQ); obtain ⟨b2, bN, bO, bP, bQ, aP, aQ⟩ := b2.zf2 bT
    go_wp2
    refine bodyPost_ret (v := .agg #[.int .u64 (lo GG : Int), .string (mo GG)]) (by simp [results, Tryz.results79, go_sem, aP, aQ]) rfl ?_
    exact ⟨rfl, Xz (Ja hB bM) (by omega) _ _⟩
theorem Jfm (x y : Int) (X Y : Nat) (w : World) (hx : Je x.natAbs <= 549755813888) (hy : Je y.natAbs <= 549755813888) (hT : Tab w) (hX : X = if x.natAbs < y.natAbs then y.natAbs else x.natAbs) (hY : Y = if x.natAbs < y.natAbs then x.natAbs else y.natAbs) :
  Calls Tryz.prog 79 #[Qa x, Qa y] w (Ret (Jj (Nat.gcd X Y)) w) := by
 by_cases aD : Y = 0
 ·exact Jif x y X Y w hx hy hT hX hY aD
 by_cases aE : X % Y = 0
 ·exact Jie x y X Y w hx hy hT hX hY aD aE
 by_cases aH : Y < 18446744073709551616
 ·exact Jid x y X Y w hx hy hT hX hY aD aE aH
 exact Jic x y X Y w hx hy hT hX hY aD aE aH
theorem Uu (x y : Int) (w : World) (hx : Je x.natAbs <= 549755813888) (hy : Je y.natAbs <= 549755813888) (hT : Tab w) :
  Calls Tryz.prog 79 #[Qa x, Qa y] w (Ret (Jj (Nat.gcd x.natAbs y.natAbs)) w) := by
 have h := Jfm x y _ _ w hx hy hT rfl rfl
 have e : Nat.gcd (if x.natAbs < y.natAbs then y.natAbs else x.natAbs) (if x.natAbs < y.natAbs then x.natAbs else y.natAbs) = Nat.gcd x.natAbs y.natAbs := by
  split
  ·exact Nat.gcd_comm _ _
  rfl
 rw [e] at h
 exact h
