import Derived.Test.YtacbcaebaomglaaGreatDoorGcdPA
namespace Go.Proofs.YtacbcaebaomglaaGreatDoor
set_option maxRecDepth 100000
set_option maxHeartbeats 1000000
open Go.RowKit
set_option linter.all false
theorem Jev (x y : Int) (X Y : Nat) (w : World) (hx : Je x.natAbs <= 549755813888) (hy : Je y.natAbs <= 549755813888) (hT : Tab w) (hX : X = if x.natAbs < y.natAbs then y.natAbs else x.natAbs) (hY : Y = if x.natAbs < y.natAbs then x.natAbs else y.natAbs) (q9 : Y ≠ 0) (u5 : X % Y = 0) :
  Calls Tryz.prog 74 #[Js x, Js y] w (Ret (Jh (Nat.gcd X Y)) w) := by
 have HY0 := lh q9
 have HR0 := lh u5
 clear q9 u5
 have bF : Je X <= 549755813888 := by rw [hX]; split <;> assumption
 have bG : Je Y <= 549755813888 := by rw [hY]; split <;> assumption
 have y8 := lh (fun w => Xv x.natAbs y.natAbs w (by omega) (by omega))
 obtain ⟨GG, y9⟩ : ∃ GG, Nat.gcd X Y = GG := ⟨_, rfl⟩
 rw [y9]
 have HGG := lh y9
 clear y9
 have HXY := lh (And.intro hX hY)
 clear hX hY
 unfold Js
 generalize hnx : decide (x < 0) = nx
 generalize hny : decide (y < 0) = ny
 clear hnx hny
 generalize x.natAbs = a at *
 generalize y.natAbs = b at *
 unfold Jh at y8 ⊢
 obtain ⟨b0, b1, b2, hB, hZ⟩ := bx3 w 63 #[.bool nx, .int .u64 (lo a : Int), .string (mo a)] 63 #[.bool ny, .int .u64 (lo b : Int), .string (mo b)] 61 #[.int .u64 0, .string ⟨#[]⟩]
 have bH := hT.next hB
 go_enter Tryz.func74, Tryz.ntmps74
 go_upto_region 1 with fail
 generalize (((w.alloc (.cells #[.bool nx, .int .u64 (lo a : Int), .string (mo a)] 63)).alloc (.cells #[.bool ny, .int .u64 (lo b : Int), .string (mo b)] 63)).alloc (.cells #[.int .u64 0, .string ⟨#[]⟩] 61)) = W at *
 obtain ⟨aA, aB, aC⟩ := b0.c3; obtain ⟨aD, aE, aF⟩ := b1.c3
 have aR := b0.lt
 have aS := b1.lt
 go_cut [5, 6] (fun v5 v6 wc => Jkt W a b v5 v6 wc)
 case first =>
  go_region
  all_goals
   go_wp2_with fail
   go_meet
   first
    | exact ⟨W.heap.size, W.heap.size + 1, rfl, rfl, by omega, by omega, by omega, (Blk.new W 61 #[.int .u64 (lo a : Int), .string (mo a)]).alloc _, Blk.new2 W _ 61 #[.int .u64 (lo b : Int), .string (mo b)], Jx (Ji W _ _) 1⟩
    | exact ⟨W.heap.size + 1, W.heap.size, rfl, rfl, by omega, by omega, by omega, Blk.new2 W _ 61 #[.int .u64 (lo a : Int), .string (mo a)], (Blk.new W 61 #[.int .u64 (lo b : Int), .string (mo b)]).alloc _, Jx (Ji W _ _) 1⟩
 case rest =>
  obtain ⟨g, h, rfl, rfl, x7, x8, x9, o8, o9, p8⟩ := hcut
  clear aA aB aC aD aE aF b0 b1 aR aS
  have aT : ¬ h = g := fun e => x7 e.symm
  have aU : ¬ g = h := x7
  obtain ⟨e8, e9⟩ := o8.c2; obtain ⟨j0, j6⟩ := o9.c2
  go_wp2_with fail
  refine (y8.out _).mono ?_
  rintro e w1 ⟨rfl, p7⟩
  have p0 := Ja p8 p7
  (try clear e8 e9 j7 j8 j9 l5); obtain ⟨o8, e8, e9, j7, j8, j9, l5⟩ := o8.zf2 p7; (try clear j0 j6 l7 o0 o6 o7); obtain ⟨o9, j0, j6, l7, o0, o6, o7⟩ := o9.zf2 p7
  obtain ⟨cv, aG⟩ : ∃ cv, Qw a b = cv := ⟨_, rfl⟩
  rw [aG]
  have aP : cv < 0 ↔ a < b := by
   rw [<- aG]
   unfold Qw
   split
   ·simp; assumption
   split <;> simp <;> omega
  have HCL := lh aP
  clear aG aP y8 p8 p7
  go_upto_if 21 with fail
  go_cut [20] (fun _ wc => GB W g h X Y wc)
  case first =>
   by_cases p9 : a < b
   ·have aH : X = b /\ Y = a := by have := HXY.out; rw [if_pos p9, if_pos p9] at this; exact this
    obtain ⟨rfl, rfl⟩ := aH
    have aV := HCL.out.2 p9
    clear HXY HCL p9
    go_wp2
    go_meet
    obtain ⟨s1, s2⟩ := Ku o8 o9 x7 (.int .u64 (lo X : Int)) (.string (mo X)) (.int .u64 (lo Y : Int)) (.string (mo Y))
    exact ⟨s1, s2, (((p0.setCell x8 _).setCell x8 _).setCell x9 _).setCell x9 _⟩
   have aH : X = a /\ Y = b := by have := HXY.out; rw [if_neg p9, if_neg p9] at this; exact this
   obtain ⟨rfl, rfl⟩ := aH
   have aV : ¬ cv < 0 := fun h => p9 (HCL.out.1 h)
   clear HXY HCL p9
   go_wp2
   go_meet
   exact ⟨o8, o9, p0⟩
  case rest =>
   clear e8 e9 j7 j8 j9 l5 j0 j6 l7 o0 o6 o7
   clear o8 o9 p0 HCL HXY
   obtain ⟨o8, o9, p8⟩ := hcut
   have q8 := lh (fun w => Qk Y w (by omega))
   unfold Jh at q8
   have b2 := b2.below p8 b2.lt
   obtain ⟨e8, e9, j7, j8, j9, l5⟩ := o8.f2; obtain ⟨j0, j6, l7, o0, o6, o7⟩ := o9.f2
   have aI := Qq Y
   have n1 : ¬ g = w.heap.size + 1 + 1 := by have := hZ.out; omega
   have n2 : ¬ w.heap.size + 1 + 1 = g := by have := hZ.out; omega
   have n3 : ¬ h = w.heap.size + 1 + 1 := by have := hZ.out; omega
   have n4 : ¬ w.heap.size + 1 + 1 = h := by have := hZ.out; omega
   go_wp2_with fail
   refine (q8.out _).mono ?_
   rintro e w1 ⟨rfl, p7⟩
   have p0 := Ja p8 p7
   (try clear e8 e9 j7 j8 j9 l5); obtain ⟨o8, e8, e9, j7, j8, j9, l5⟩ := o8.zf2 p7; (try clear j0 j6 l7 o0 o6 o7); obtain ⟨o9, j0, j6, l7, o0, o6, o7⟩ := o9.zf2 p7
   have b2 := b2.below p7 b2.lt
   clear q8 p7 p8
   have q9 := HY0.out
   have aW : ((Je Y : Int) == 0) = false := by simp; have := aI.2 q9; omega
   have aX : (Je Y == 0) = false := by simp; have := aI.2 q9; omega
   have aJ := lh (fun w => Jbc X Y w q9 (by omega) (by omega))
   have aQ : Nat.gcd X Y = Nat.gcd Y (X % Y) := by rw [Nat.gcd_comm, Nat.gcd_rec, Nat.gcd_comm]
   rw [aQ] at HGG
   have bI : Je (X % Y) <= Je Y := Jw (Nat.le_of_lt (Nat.mod_lt _ (by omega)))
   have bJ : X % Y < Y := Nat.mod_lt _ (by omega)
   unfold Jh at aJ
   generalize X / Y = Q at *
   generalize X % Y = R at *
   clear aQ aI
   go_wp2_with fail
   refine (aJ.out _).mono ?_
   rintro e w2 ⟨rfl, s9⟩
   have t7 := Ja (Ja p0 s9) (Ji w2 (.cells #[.int .u64 (lo Q : Int), .string (mo Q)] 61) (.cells #[.int .u64 (lo R : Int), .string (mo R)] 61))
   have b2 := ((b2.below s9 b2.lt).alloc (.cells #[.int .u64 (lo Q : Int), .string (mo Q)] 61)).alloc (.cells #[.int .u64 (lo R : Int), .string (mo R)] 61)
   have o8 := o8.below s9 o8.lt
   have o9 := o9.below s9 o9.lt
   have aY := o8.lt
   have aZ := o9.lt
   have o8 := (o8.alloc (.cells #[.int .u64 (lo Q : Int), .string (mo Q)] 61)).alloc (.cells #[.int .u64 (lo R : Int), .string (mo R)] 61)
   have o9 := (o9.alloc (.cells #[.int .u64 (lo Q : Int), .string (mo Q)] 61)).alloc (.cells #[.int .u64 (lo R : Int), .string (mo R)] 61)
   have b8 := Blk.new2 w2 (.cells #[.int .u64 (lo Q : Int), .string (mo Q)] 61) 61 #[.int .u64 (lo R : Int), .string (mo R)]
   have n5 : ¬ w2.heap.size + 1 = g := by omega
   have n6 : ¬ w2.heap.size + 1 = h := by omega
   have n7 : ¬ g = w2.heap.size + 1 := by omega
   have n8 : ¬ h = w2.heap.size + 1 := by omega
   have t8 := p0.size
   have aK := s9.size
   have n9 : ¬ w2.heap.size + 1 = w.heap.size + 1 + 1 := by have := hZ.out; omega
   clear s9 p0 aJ
   clear e8 e9 j7 j8 j9 l5 j0 j6 l7 o0 o6 o7
   obtain ⟨e8, e9, j7, j8, j9, l5⟩ := o8.f2; obtain ⟨j0, j6, l7, o0, o6, o7⟩ := o9.f2
   obtain ⟨aL, aM⟩ := b8.c2
   go_upto_region 7 with fail
   generalize (w2.alloc (.cells #[.int .u64 (lo Q : Int), .string (mo Q)] 61)).alloc (.cells #[.int .u64 (lo R : Int), .string (mo R)] 61) = w3 at *
   go_cut [35] (fun _ wc => GB W g h Y R wc)
   case first =>
    go_region
    all_goals
     go_wp2_with fail
     go_meet
     obtain ⟨s1, s2⟩ := Ku o8 o9 x7 (.int .u64 (lo Y : Int)) (.string (mo Y)) (.int .u64 (lo R : Int)) (.string (mo R))
     exact ⟨s1, s2, Jx ((((t7.setCell x8 _).setCell x8 _).setCell x9 _).setCell x9 _) 1⟩
   case rest =>
    have u4 : Blk W (w.heap.size + 1 + 1) 61 #[.int .u64 0, .string ⟨#[]⟩] := by assumption
    clear e8 e9 j7 j8 j9 l5 j0 j6 l7 o0 o6 o7
    clear o8 o9 aL aM b8 n5 n6 n7 n8 n9 aY aZ t7 b2 t8 aK aW aX
    obtain ⟨o8, o9, p8⟩ := hcut
    have q8 := lh (fun w => Qk R w (by omega))
    unfold Jh at q8
    have b2 := u4.below p8 u4.lt
    obtain ⟨e8, e9, j7, j8, j9, l5⟩ := o8.f2; obtain ⟨j0, j6, l7, o0, o6, o7⟩ := o9.f2
    have bA := Qq R
    go_wp2_with fail
    refine (q8.out _).mono ?_
    rintro e w1 ⟨rfl, p7⟩
    have p0 := Ja p8 p7
    (try clear e8 e9 j7 j8 j9 l5); obtain ⟨o8, e8, e9, j7, j8, j9, l5⟩ := o8.zf2 p7; (try clear j0 j6 l7 o0 o6 o7); obtain ⟨o9, j0, j6, l7, o0, o6, o7⟩ := o9.zf2 p7
    have b2 := b2.below p7 b2.lt
    clear q8 p7 p8
    have u5 := HR0.out
    subst u5
    obtain rfl : Y = GG := by rw [<- HGG.out, Nat.gcd_zero_right]
    have e0 : Je 0 = 0 := rfl
    rw [e0]
    obtain ⟨bB, bC, bD, bE, aN, aO⟩ := b2.f2
    clear e0 bA
    go_wp2
    refine bodyPost_ret (v := .agg #[.int .u64 (lo Y : Int), .string (mo Y)]) (by simp [results, Tryz.results74, go_sem, aN, aO]) rfl ?_
    exact ⟨rfl, Xg (Ja hB p0) (by omega) _ _⟩
