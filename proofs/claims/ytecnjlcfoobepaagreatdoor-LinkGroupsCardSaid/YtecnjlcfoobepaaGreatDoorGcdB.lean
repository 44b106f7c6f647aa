import Derived.Test.YtecnjlcfoobepaaGreatDoorGcdPA
namespace Go.Proofs.YtecnjlcfoobepaaGreatDoor
set_option maxRecDepth 100000
set_option maxHeartbeats 1000000
open Go.RowKit
set_option linter.all false
theorem Jie (x y : Int) (X Y : Nat) (w : World) (hx : Je x.natAbs <= 549755813888) (hy : Je y.natAbs <= 549755813888) (hT : Tab w) (hX : X = if x.natAbs < y.natAbs then y.natAbs else x.natAbs) (hY : Y = if x.natAbs < y.natAbs then x.natAbs else y.natAbs) (aG : Y ≠ 0) (aL : X % Y = 0) :
  Calls Tryz.prog 79 #[Qa x, Qa y] w (Ret (Jj (Nat.gcd X Y)) w) := by
 have HY0 := lh aG
 have HR0 := lh aL
 clear aG aL
 have bW : Je X <= 549755813888 := by rw [hX]; split <;> assumption
 have bX : Je Y <= 549755813888 := by rw [hY]; split <;> assumption
 have aP := lh (fun w => Zr x.natAbs y.natAbs w (by omega) (by omega))
 obtain ⟨GG, aQ⟩ : ∃ GG, Nat.gcd X Y = GG := ⟨_, rfl⟩
 rw [aQ]
 have HGG := lh aQ
 clear aQ
 have HXY := lh (And.intro hX hY)
 clear hX hY
 unfold Qa
 generalize hnx : decide (x < 0) = nx
 generalize hny : decide (y < 0) = ny
 clear hnx hny
 generalize x.natAbs = a at *
 generalize y.natAbs = b at *
 unfold Jj at aP ⊢
 obtain ⟨b0, b1, b2, hB, hZ⟩ := bx3 w 54 #[.bool nx, .int .u64 (lo a : Int), .string (mo a)] 54 #[.bool ny, .int .u64 (lo b : Int), .string (mo b)] 52 #[.int .u64 0, .string ⟨#[]⟩]
 have bY := hT.next hB
 go_enter Tryz.func79, Tryz.ntmps79
 go_upto_region 1 with fail
 generalize (((w.alloc (.cells #[.bool nx, .int .u64 (lo a : Int), .string (mo a)] 54)).alloc (.cells #[.bool ny, .int .u64 (lo b : Int), .string (mo b)] 54)).alloc (.cells #[.int .u64 0, .string ⟨#[]⟩] 52)) = W at *
 obtain ⟨aR, aS, aT⟩ := b0.c3; obtain ⟨aU, aV, aW⟩ := b1.c3
 have bI := b0.lt
 have bJ := b1.lt
 go_cut [5, 6] (fun v5 v6 wc => Jrp W a b v5 v6 wc)
 case first =>
  go_region
  all_goals
   go_wp2_with fail
   go_meet
   first
    | exact ⟨W.heap.size, W.heap.size + 1, rfl, rfl, by omega, by omega, by omega, (Blk.new W 52 #[.int .u64 (lo a : Int), .string (mo a)]).alloc _, Blk.new2 W _ 52 #[.int .u64 (lo b : Int), .string (mo b)], Jz (Jl W _ _) 1⟩
    | exact ⟨W.heap.size + 1, W.heap.size, rfl, rfl, by omega, by omega, by omega, Blk.new2 W _ 52 #[.int .u64 (lo a : Int), .string (mo a)], (Blk.new W 52 #[.int .u64 (lo b : Int), .string (mo b)]).alloc _, Jz (Jl W _ _) 1⟩
 case rest =>
  obtain ⟨g, h, rfl, rfl, aM, aN, aO, y9, aA, aD⟩ := hcut
  clear aR aS aT aU aV aW b0 b1 bI bJ
  have bK : ¬ h = g := fun e => aM e.symm
  have bL : ¬ g = h := aM
  obtain ⟨j6, j7⟩ := y9.c2; obtain ⟨j8, j9⟩ := aA.c2
  go_wp2_with fail
  refine (aP.out _).mono ?_
  rintro e w1 ⟨rfl, aC⟩
  have aB := Ja aD aC
  (try clear j6 j7 o0 o5 s9 t7); obtain ⟨y9, j6, j7, o0, o5, s9, t7⟩ := y9.zf2 aC; (try clear j8 j9 t8 x8 x9 y8); obtain ⟨aA, j8, j9, t8, x8, x9, y8⟩ := aA.zf2 aC
  obtain ⟨cv, aX⟩ : ∃ cv, Xd a b = cv := ⟨_, rfl⟩
  rw [aX]
  have bG : cv < 0 ↔ a < b := by
   rw [<- aX]
   unfold Xd
   split
   ·simp; assumption
   split <;> simp <;> omega
  have HCL := lh bG
  clear aX bG aP aD aC
  go_upto_if 21 with fail
  go_cut [20] (fun _ wc => GB W g h X Y wc)
  case first =>
   by_cases aE : a < b
   ·have aY : X = b /\ Y = a := by have := HXY.out; rw [if_pos aE, if_pos aE] at this; exact this
    obtain ⟨rfl, rfl⟩ := aY
    have bM := HCL.out.2 aE
    clear HXY HCL aE
    go_wp2
    go_meet
    obtain ⟨s1, s2⟩ := Vl y9 aA aM (.int .u64 (lo X : Int)) (.string (mo X)) (.int .u64 (lo Y : Int)) (.string (mo Y))
    exact ⟨s1, s2, (((aB.setCell aN _).setCell aN _).setCell aO _).setCell aO _⟩
   have aY : X = a /\ Y = b := by have := HXY.out; rw [if_neg aE, if_neg aE] at this; exact this
   obtain ⟨rfl, rfl⟩ := aY
   have bM : ¬ cv < 0 := fun h => aE (HCL.out.1 h)
   clear HXY HCL aE
   go_wp2
   go_meet
   exact ⟨y9, aA, aB⟩
  case rest =>
   clear j6 j7 o0 o5 s9 t7 j8 j9 t8 x8 x9 y8
   clear y9 aA aB HCL HXY
   obtain ⟨y9, aA, aD⟩ := hcut
   have aF := lh (fun w => Qx Y w (by omega))
   unfold Jj at aF
   have b2 := b2.below aD b2.lt
   obtain ⟨j6, j7, o0, o5, s9, t7⟩ := y9.f2; obtain ⟨j8, j9, t8, x8, x9, y8⟩ := aA.f2
   have aZ := Xe Y
   have n1 : ¬ g = w.heap.size + 1 + 1 := by have := hZ.out; omega
   have n2 : ¬ w.heap.size + 1 + 1 = g := by have := hZ.out; omega
   have n3 : ¬ h = w.heap.size + 1 + 1 := by have := hZ.out; omega
   have n4 : ¬ w.heap.size + 1 + 1 = h := by have := hZ.out; omega
   go_wp2_with fail
   refine (aF.out _).mono ?_
   rintro e w1 ⟨rfl, aC⟩
   have aB := Ja aD aC
   (try clear j6 j7 o0 o5 s9 t7); obtain ⟨y9, j6, j7, o0, o5, s9, t7⟩ := y9.zf2 aC; (try clear j8 j9 t8 x8 x9 y8); obtain ⟨aA, j8, j9, t8, x8, x9, y8⟩ := aA.zf2 aC
   have b2 := b2.below aC b2.lt
   clear aF aC aD
   have aG := HY0.out
   have bN : ((Je Y : Int) == 0) = false := by simp; have := aZ.2 aG; omega
   have bO : (Je Y == 0) = false := by simp; have := aZ.2 aG; omega
   have bA := lh (fun w => Jdw X Y w aG (by omega) (by omega))
   have bH : Nat.gcd X Y = Nat.gcd Y (X % Y) := by rw [Nat.gcd_comm, Nat.gcd_rec, Nat.gcd_comm]
   rw [bH] at HGG
   have bZ : Je (X % Y) <= Je Y := Qb (Nat.le_of_lt (Nat.mod_lt _ (by omega)))
   have cA : X % Y < Y := Nat.mod_lt _ (by omega)
   unfold Jj at bA
   generalize X / Y = Q at *
   generalize X % Y = R at *
   clear bH aZ
   go_wp2_with fail
   refine (bA.out _).mono ?_
   rintro e w2 ⟨rfl, aH⟩
   have aI := Ja (Ja aB aH) (Jl w2 (.cells #[.int .u64 (lo Q : Int), .string (mo Q)] 52) (.cells #[.int .u64 (lo R : Int), .string (mo R)] 52))
   have b2 := ((b2.below aH b2.lt).alloc (.cells #[.int .u64 (lo Q : Int), .string (mo Q)] 52)).alloc (.cells #[.int .u64 (lo R : Int), .string (mo R)] 52)
   have y9 := y9.below aH y9.lt
   have aA := aA.below aH aA.lt
   have bP := y9.lt
   have bQ := aA.lt
   have y9 := (y9.alloc (.cells #[.int .u64 (lo Q : Int), .string (mo Q)] 52)).alloc (.cells #[.int .u64 (lo R : Int), .string (mo R)] 52)
   have aA := (aA.alloc (.cells #[.int .u64 (lo Q : Int), .string (mo Q)] 52)).alloc (.cells #[.int .u64 (lo R : Int), .string (mo R)] 52)
   have b8 := Blk.new2 w2 (.cells #[.int .u64 (lo Q : Int), .string (mo Q)] 52) 52 #[.int .u64 (lo R : Int), .string (mo R)]
   have n5 : ¬ w2.heap.size + 1 = g := by omega
   have n6 : ¬ w2.heap.size + 1 = h := by omega
   have n7 : ¬ g = w2.heap.size + 1 := by omega
   have n8 : ¬ h = w2.heap.size + 1 := by omega
   have aJ := aB.size
   have bB := aH.size
   have n9 : ¬ w2.heap.size + 1 = w.heap.size + 1 + 1 := by have := hZ.out; omega
   clear aH aB bA
   clear j6 j7 o0 o5 s9 t7 j8 j9 t8 x8 x9 y8
   obtain ⟨j6, j7, o0, o5, s9, t7⟩ := y9.f2; obtain ⟨j8, j9, t8, x8, x9, y8⟩ := aA.f2
   obtain ⟨bC, bD⟩ := b8.c2
   go_upto_region 7 with fail
   generalize (w2.alloc (.cells #[.int .u64 (lo Q : Int), .string (mo Q)] 52)).alloc (.cells #[.int .u64 (lo R : Int), .string (mo R)] 52) = w3 at *
   go_cut [35] (fun _ wc => GB W g h Y R wc)
   case first =>
    go_region
    all_goals
     go_wp2_with fail
     go_meet
     obtain ⟨s1, s2⟩ := Vl y9 aA aM (.int .u64 (lo Y : Int)) (.string (mo Y)) (.int .u64 (lo R : Int)) (.string (mo R))
     exact ⟨s1, s2, Jz ((((aI.setCell aN _).setCell aN _).setCell aO _).setCell aO _) 1⟩
   case rest =>
    have aK : Blk W (w.heap.size + 1 + 1) 52 #[.int .u64 0, .string ⟨#[]⟩] := by assumption
    clear j6 j7 o0 o5 s9 t7 j8 j9 t8 x8 x9 y8
    clear y9 aA bC bD b8 n5 n6 n7 n8 n9 bP bQ aI b2 aJ bB bN bO
    obtain ⟨y9, aA, aD⟩ := hcut
    have aF := lh (fun w => Qx R w (by omega))
    unfold Jj at aF
    have b2 := aK.below aD aK.lt
    obtain ⟨j6, j7, o0, o5, s9, t7⟩ := y9.f2; obtain ⟨j8, j9, t8, x8, x9, y8⟩ := aA.f2
    have bR := Xe R
    go_wp2_with fail
    refine (aF.out _).mono ?_
    rintro e w1 ⟨rfl, aC⟩
    have aB := Ja aD aC
    (try clear j6 j7 o0 o5 s9 t7); obtain ⟨y9, j6, j7, o0, o5, s9, t7⟩ := y9.zf2 aC; (try clear j8 j9 t8 x8 x9 y8); obtain ⟨aA, j8, j9, t8, x8, x9, y8⟩ := aA.zf2 aC
    have b2 := b2.below aC b2.lt
    clear aF aC aD
    have aL := HR0.out
    subst aL
    obtain rfl : Y = GG := by rw [<- HGG.out, Nat.gcd_zero_right]
    have e0 : Je 0 = 0 := rfl
    rw [e0]
    obtain ⟨bS, bT, bU, bV, bE, bF⟩ := b2.f2
    clear e0 bR
    go_wp2
    refine bodyPost_ret (v := .agg #[.int .u64 (lo Y : Int), .string (mo Y)]) (by simp [results, Tryz.results79, go_sem, bE, bF]) rfl ?_
    exact ⟨rfl, Xz (Ja hB aB) (by omega) _ _⟩
