import Derived.Test.YtacbcaebaomglaaGreatDoorGcdPA
namespace Go.Proofs.YtacbcaebaomglaaGreatDoor
set_option maxRecDepth 100000
set_option maxHeartbeats 1000000
open Go.RowKit
set_option linter.all false
theorem Jhb (x y : Int) (X Y : Nat) (w : World) (hx : Je x.natAbs <= 549755813888) (hy : Je y.natAbs <= 549755813888) (hT : Tab w) (hX : X = if x.natAbs < y.natAbs then y.natAbs else x.natAbs) (hY : Y = if x.natAbs < y.natAbs then x.natAbs else y.natAbs) (u4 : Y ≠ 0) (y9 : X % Y = 0) :
  Calls Tryz.prog 74 #[Jx x, Jx y] w (Ret (Jh (Nat.gcd X Y)) w) := by
 have HY0 := lh u4
 have HR0 := lh y9
 clear u4 y9
 have bK : Je X <= 549755813888 := by rw [hX]; split <;> assumption
 have bL : Je Y <= 549755813888 := by rw [hY]; split <;> assumption
 have aD := lh (fun w => Zt x.natAbs y.natAbs w (by omega) (by omega))
 obtain ⟨GG, aE⟩ : ∃ GG, Nat.gcd X Y = GG := ⟨_, rfl⟩
 rw [aE]
 have HGG := lh aE
 clear aE
 have HXY := lh (And.intro hX hY)
 clear hX hY
 unfold Jx
 generalize hnx : decide (x < 0) = nx
 generalize hny : decide (y < 0) = ny
 clear hnx hny
 generalize x.natAbs = a at *
 generalize y.natAbs = b at *
 unfold Jh at aD ⊢
 obtain ⟨b0, b1, b2, hB, hZ⟩ := bx3 w 63 #[.bool nx, .int .u64 (lo a : Int), .string (mo a)] 63 #[.bool ny, .int .u64 (lo b : Int), .string (mo b)] 61 #[.int .u64 0, .string ⟨#[]⟩]
 have bM := hT.next hB
 go_enter Tryz.func74, Tryz.ntmps74
 go_upto_region 1 with fail
 generalize (((w.alloc (.cells #[.bool nx, .int .u64 (lo a : Int), .string (mo a)] 63)).alloc (.cells #[.bool ny, .int .u64 (lo b : Int), .string (mo b)] 63)).alloc (.cells #[.int .u64 0, .string ⟨#[]⟩] 61)) = W at *
 obtain ⟨aF, aG, aH⟩ := b0.c3; obtain ⟨aI, aJ, aK⟩ := b1.c3
 have aW := b0.lt
 have aX := b1.lt
 go_cut [5, 6] (fun v5 v6 wc => Jnt W a b v5 v6 wc)
 case first =>
  go_region
  all_goals
   go_wp2_with fail
   go_meet
   first
    | exact ⟨W.heap.size, W.heap.size + 1, rfl, rfl, by omega, by omega, by omega, (Blk.new W 61 #[.int .u64 (lo a : Int), .string (mo a)]).alloc _, Blk.new2 W _ 61 #[.int .u64 (lo b : Int), .string (mo b)], Jy (Jj W _ _) 1⟩
    | exact ⟨W.heap.size + 1, W.heap.size, rfl, rfl, by omega, by omega, by omega, Blk.new2 W _ 61 #[.int .u64 (lo a : Int), .string (mo a)], (Blk.new W 61 #[.int .u64 (lo b : Int), .string (mo b)]).alloc _, Jy (Jj W _ _) 1⟩
 case rest =>
  obtain ⟨g, h, rfl, rfl, aA, aB, aC, p7, p8, s9⟩ := hcut
  clear aF aG aH aI aJ aK b0 b1 aW aX
  have aY : ¬ h = g := fun e => aA e.symm
  have aZ : ¬ g = h := aA
  obtain ⟨e8, e9⟩ := p7.c2; obtain ⟨j0, j6⟩ := p8.c2
  go_wp2_with fail
  refine (aD.out _).mono ?_
  rintro e w1 ⟨rfl, q8⟩
  have p9 := Ja s9 q8
  (try clear e8 e9 j7 j8 j9 o0); obtain ⟨p7, e8, e9, j7, j8, j9, o0⟩ := p7.zf2 q8; (try clear j0 j6 o6 o7 o8 o9); obtain ⟨p8, j0, j6, o6, o7, o8, o9⟩ := p8.zf2 q8
  obtain ⟨cv, aL⟩ : ∃ cv, Qx a b = cv := ⟨_, rfl⟩
  rw [aL]
  have aU : cv < 0 ↔ a < b := by
   rw [<- aL]
   unfold Qx
   split
   ·simp; assumption
   split <;> simp <;> omega
  have HCL := lh aU
  clear aL aU aD s9 q8
  go_upto_if 21 with fail
  go_cut [20] (fun _ wc => GB W g h X Y wc)
  case first =>
   by_cases t7 : a < b
   ·have aM : X = b /\ Y = a := by have := HXY.out; rw [if_pos t7, if_pos t7] at this; exact this
    obtain ⟨rfl, rfl⟩ := aM
    have bA := HCL.out.2 t7
    clear HXY HCL t7
    go_wp2
    go_meet
    obtain ⟨s1, s2⟩ := Ve p7 p8 aA (.int .u64 (lo X : Int)) (.string (mo X)) (.int .u64 (lo Y : Int)) (.string (mo Y))
    exact ⟨s1, s2, (((p9.setCell aB _).setCell aB _).setCell aC _).setCell aC _⟩
   have aM : X = a /\ Y = b := by have := HXY.out; rw [if_neg t7, if_neg t7] at this; exact this
   obtain ⟨rfl, rfl⟩ := aM
   have bA : ¬ cv < 0 := fun h => t7 (HCL.out.1 h)
   clear HXY HCL t7
   go_wp2
   go_meet
   exact ⟨p7, p8, p9⟩
  case rest =>
   clear e8 e9 j7 j8 j9 o0 j0 j6 o6 o7 o8 o9
   clear p7 p8 p9 HCL HXY
   obtain ⟨p7, p8, s9⟩ := hcut
   have t8 := lh (fun w => Qr Y w (by omega))
   unfold Jh at t8
   have b2 := b2.below s9 b2.lt
   obtain ⟨e8, e9, j7, j8, j9, o0⟩ := p7.f2; obtain ⟨j0, j6, o6, o7, o8, o9⟩ := p8.f2
   have aN := Qz Y
   have n1 : ¬ g = w.heap.size + 1 + 1 := by have := hZ.out; omega
   have n2 : ¬ w.heap.size + 1 + 1 = g := by have := hZ.out; omega
   have n3 : ¬ h = w.heap.size + 1 + 1 := by have := hZ.out; omega
   have n4 : ¬ w.heap.size + 1 + 1 = h := by have := hZ.out; omega
   go_wp2_with fail
   refine (t8.out _).mono ?_
   rintro e w1 ⟨rfl, q8⟩
   have p9 := Ja s9 q8
   (try clear e8 e9 j7 j8 j9 o0); obtain ⟨p7, e8, e9, j7, j8, j9, o0⟩ := p7.zf2 q8; (try clear j0 j6 o6 o7 o8 o9); obtain ⟨p8, j0, j6, o6, o7, o8, o9⟩ := p8.zf2 q8
   have b2 := b2.below q8 b2.lt
   clear t8 q8 s9
   have u4 := HY0.out
   have bB : ((Je Y : Int) == 0) = false := by simp; have := aN.2 u4; omega
   have bC : (Je Y == 0) = false := by simp; have := aN.2 u4; omega
   have aO := lh (fun w => Jdc X Y w u4 (by omega) (by omega))
   have aV : Nat.gcd X Y = Nat.gcd Y (X % Y) := by rw [Nat.gcd_comm, Nat.gcd_rec, Nat.gcd_comm]
   rw [aV] at HGG
   have bN : Je (X % Y) <= Je Y := Jz (Nat.le_of_lt (Nat.mod_lt _ (by omega)))
   have bO : X % Y < Y := Nat.mod_lt _ (by omega)
   unfold Jh at aO
   generalize X / Y = Q at *
   generalize X % Y = R at *
   clear aV aN
   go_wp2_with fail
   refine (aO.out _).mono ?_
   rintro e w2 ⟨rfl, x7⟩
   have x8 := Ja (Ja p9 x7) (Jj w2 (.cells #[.int .u64 (lo Q : Int), .string (mo Q)] 61) (.cells #[.int .u64 (lo R : Int), .string (mo R)] 61))
   have b2 := ((b2.below x7 b2.lt).alloc (.cells #[.int .u64 (lo Q : Int), .string (mo Q)] 61)).alloc (.cells #[.int .u64 (lo R : Int), .string (mo R)] 61)
   have p7 := p7.below x7 p7.lt
   have p8 := p8.below x7 p8.lt
   have bD := p7.lt
   have bE := p8.lt
   have p7 := (p7.alloc (.cells #[.int .u64 (lo Q : Int), .string (mo Q)] 61)).alloc (.cells #[.int .u64 (lo R : Int), .string (mo R)] 61)
   have p8 := (p8.alloc (.cells #[.int .u64 (lo Q : Int), .string (mo Q)] 61)).alloc (.cells #[.int .u64 (lo R : Int), .string (mo R)] 61)
   have b8 := Blk.new2 w2 (.cells #[.int .u64 (lo Q : Int), .string (mo Q)] 61) 61 #[.int .u64 (lo R : Int), .string (mo R)]
   have n5 : ¬ w2.heap.size + 1 = g := by omega
   have n6 : ¬ w2.heap.size + 1 = h := by omega
   have n7 : ¬ g = w2.heap.size + 1 := by omega
   have n8 : ¬ h = w2.heap.size + 1 := by omega
   have x9 := p9.size
   have aP := x7.size
   have n9 : ¬ w2.heap.size + 1 = w.heap.size + 1 + 1 := by have := hZ.out; omega
   clear x7 p9 aO
   clear e8 e9 j7 j8 j9 o0 j0 j6 o6 o7 o8 o9
   obtain ⟨e8, e9, j7, j8, j9, o0⟩ := p7.f2; obtain ⟨j0, j6, o6, o7, o8, o9⟩ := p8.f2
   obtain ⟨aQ, aR⟩ := b8.c2
   go_upto_region 7 with fail
   generalize (w2.alloc (.cells #[.int .u64 (lo Q : Int), .string (mo Q)] 61)).alloc (.cells #[.int .u64 (lo R : Int), .string (mo R)] 61) = w3 at *
   go_cut [35] (fun _ wc => GB W g h Y R wc)
   case first =>
    go_region
    all_goals
     go_wp2_with fail
     go_meet
     obtain ⟨s1, s2⟩ := Ve p7 p8 aA (.int .u64 (lo Y : Int)) (.string (mo Y)) (.int .u64 (lo R : Int)) (.string (mo R))
     exact ⟨s1, s2, Jy ((((x8.setCell aB _).setCell aB _).setCell aC _).setCell aC _) 1⟩
   case rest =>
    have y8 : Blk W (w.heap.size + 1 + 1) 61 #[.int .u64 0, .string ⟨#[]⟩] := by assumption
    clear e8 e9 j7 j8 j9 o0 j0 j6 o6 o7 o8 o9
    clear p7 p8 aQ aR b8 n5 n6 n7 n8 n9 bD bE x8 b2 x9 aP bB bC
    obtain ⟨p7, p8, s9⟩ := hcut
    have t8 := lh (fun w => Qr R w (by omega))
    unfold Jh at t8
    have b2 := y8.below s9 y8.lt
    obtain ⟨e8, e9, j7, j8, j9, o0⟩ := p7.f2; obtain ⟨j0, j6, o6, o7, o8, o9⟩ := p8.f2
    have bF := Qz R
    go_wp2_with fail
    refine (t8.out _).mono ?_
    rintro e w1 ⟨rfl, q8⟩
    have p9 := Ja s9 q8
    (try clear e8 e9 j7 j8 j9 o0); obtain ⟨p7, e8, e9, j7, j8, j9, o0⟩ := p7.zf2 q8; (try clear j0 j6 o6 o7 o8 o9); obtain ⟨p8, j0, j6, o6, o7, o8, o9⟩ := p8.zf2 q8
    have b2 := b2.below q8 b2.lt
    clear t8 q8 s9
    have y9 := HR0.out
    subst y9
    obtain rfl : Y = GG := by rw [<- HGG.out, Nat.gcd_zero_right]
    have e0 : Je 0 = 0 := rfl
    rw [e0]
    obtain ⟨bG, bH, bI, bJ, aS, aT⟩ := b2.f2
    clear e0 bF
    go_wp2
    refine bodyPost_ret (v := .agg #[.int .u64 (lo Y : Int), .string (mo Y)]) (by simp [results, Tryz.results74, go_sem, aS, aT]) rfl ?_
    exact ⟨rfl, Za (Ja hB p9) (by omega) _ _⟩
