import Derived.Test.YtacbcaebaomglaaGreatDoorGcdB
import Derived.Test.YtacbcaebaomglaaGreatDoorGcdC
namespace Go.Proofs.YtacbcaebaomglaaGreatDoor
set_option maxRecDepth 100000
set_option maxHeartbeats 1000000
open Go.RowKit
set_option linter.all false
theorem Jet (x y : Int) (X Y : Nat) (w : World) (hx : Je x.natAbs <= 549755813888) (hy : Je y.natAbs <= 549755813888) (hT : Tab w) (hX : X = if x.natAbs < y.natAbs then y.natAbs else x.natAbs) (hY : Y = if x.natAbs < y.natAbs then x.natAbs else y.natAbs) (p8 : Y ≠ 0) (p9 : X % Y ≠ 0) (s9 : ¬ Y < 18446744073709551616) :
  Calls Tryz.prog 74 #[Js x, Js y] w (Ret (Jh (Nat.gcd X Y)) w) := by
 have HY0 := lh p8
 have HR0 := lh p9
 have HYs := lh s9
 clear p8 p9 s9
 have bM : Je X <= 549755813888 := by rw [hX]; split <;> assumption
 have bN : Je Y <= 549755813888 := by rw [hY]; split <;> assumption
 have aE := lh (fun w => Xv x.natAbs y.natAbs w (by omega) (by omega))
 obtain ⟨GG, aF⟩ : ∃ GG, Nat.gcd X Y = GG := ⟨_, rfl⟩
 rw [aF]
 have HGG := lh aF
 clear aF
 have HXY := lh (And.intro hX hY)
 clear hX hY
 unfold Js
 generalize hnx : decide (x < 0) = nx
 generalize hny : decide (y < 0) = ny
 clear hnx hny
 generalize x.natAbs = a at *
 generalize y.natAbs = b at *
 unfold Jh at aE ⊢
 obtain ⟨b0, b1, b2, hB, hZ⟩ := bx3 w 63 #[.bool nx, .int .u64 (lo a : Int), .string (mo a)] 63 #[.bool ny, .int .u64 (lo b : Int), .string (mo b)] 61 #[.int .u64 0, .string ⟨#[]⟩]
 have bC := hT.next hB
 go_enter Tryz.func74, Tryz.ntmps74
 go_upto_region 1 with fail
 generalize (((w.alloc (.cells #[.bool nx, .int .u64 (lo a : Int), .string (mo a)] 63)).alloc (.cells #[.bool ny, .int .u64 (lo b : Int), .string (mo b)] 63)).alloc (.cells #[.int .u64 0, .string ⟨#[]⟩] 61)) = W at *
 obtain ⟨aG, aH, aI⟩ := b0.c3; obtain ⟨aJ, aK, aL⟩ := b1.c3
 have bD := b0.lt
 have bE := b1.lt
 go_cut [5, 6] (fun v5 v6 wc => Jkt W a b v5 v6 wc)
 case first =>
  go_region
  all_goals
   go_wp2_with fail
   go_meet
   first
    | exact ⟨W.heap.size, W.heap.size + 1, rfl, rfl, by omega, by omega, by omega, (Blk.new W 61 #[.int .u64 (lo a : Int), .string (mo a)]).alloc _, Blk.new2 W _ 61 #[.int .u64 (lo b : Int), .string (mo b)], Jx (Ji W _ _) 1⟩
    | exact ⟨W.heap.size + 1, W.heap.size, rfl, rfl, by omega, by omega, by omega, Blk.new2 W _ 61 #[.int .u64 (lo a : Int), .string (mo a)], (Blk.new W 61 #[.int .u64 (lo b : Int), .string (mo b)]).alloc _, Jx (Ji W _ _) 1⟩
 case rest =>
  obtain ⟨g, h, rfl, rfl, aA, aB, aC, o8, o9, q8⟩ := hcut
  clear aG aH aI aJ aK aL b0 b1 bD bE
  have bF : ¬ h = g := fun e => aA e.symm
  have bG : ¬ g = h := aA
  obtain ⟨e8, e9⟩ := o8.c2; obtain ⟨j0, j6⟩ := o9.c2
  go_wp2_with fail
  refine (aE.out _).mono ?_
  rintro e w1 ⟨rfl, p7⟩
  have p0 := Ja q8 p7
  (try clear e8 e9 j7 j8 j9 l5); obtain ⟨o8, e8, e9, j7, j8, j9, l5⟩ := o8.zf2 p7; (try clear j0 j6 l7 o0 o6 o7); obtain ⟨o9, j0, j6, l7, o0, o6, o7⟩ := o9.zf2 p7
  obtain ⟨cv, aM⟩ : ∃ cv, Qw a b = cv := ⟨_, rfl⟩
  rw [aM]
  have aZ : cv < 0 ↔ a < b := by
   rw [<- aM]
   unfold Qw
   split
   ·simp; assumption
   split <;> simp <;> omega
  have HCL := lh aZ
  clear aM aZ aE q8 p7
  go_upto_if 21 with fail
  go_cut [20] (fun _ wc => GB W g h X Y wc)
  case first =>
   by_cases q9 : a < b
   ·have aN : X = b /\ Y = a := by have := HXY.out; rw [if_pos q9, if_pos q9] at this; exact this
    obtain ⟨rfl, rfl⟩ := aN
    have bH := HCL.out.2 q9
    clear HXY HCL q9
    go_wp2
    go_meet
    obtain ⟨s1, s2⟩ := Ku o8 o9 aA (.int .u64 (lo X : Int)) (.string (mo X)) (.int .u64 (lo Y : Int)) (.string (mo Y))
    exact ⟨s1, s2, (((p0.setCell aB _).setCell aB _).setCell aC _).setCell aC _⟩
   have aN : X = a /\ Y = b := by have := HXY.out; rw [if_neg q9, if_neg q9] at this; exact this
   obtain ⟨rfl, rfl⟩ := aN
   have bH : ¬ cv < 0 := fun h => q9 (HCL.out.1 h)
   clear HXY HCL q9
   go_wp2
   go_meet
   exact ⟨o8, o9, p0⟩
  case rest =>
   clear e8 e9 j7 j8 j9 l5 j0 j6 l7 o0 o6 o7
   clear o8 o9 p0 HCL HXY
   obtain ⟨o8, o9, q8⟩ := hcut
   have t7 := lh (fun w => Qk Y w (by omega))
   unfold Jh at t7
   have b2 := b2.below q8 b2.lt
   obtain ⟨e8, e9, j7, j8, j9, l5⟩ := o8.f2; obtain ⟨j0, j6, l7, o0, o6, o7⟩ := o9.f2
   have aO := Qq Y
   have n1 : ¬ g = w.heap.size + 1 + 1 := by have := hZ.out; omega
   have n2 : ¬ w.heap.size + 1 + 1 = g := by have := hZ.out; omega
   have n3 : ¬ h = w.heap.size + 1 + 1 := by have := hZ.out; omega
   have n4 : ¬ w.heap.size + 1 + 1 = h := by have := hZ.out; omega
   go_wp2_with fail
   refine (t7.out _).mono ?_
   rintro e w1 ⟨rfl, p7⟩
   have p0 := Ja q8 p7
   (try clear e8 e9 j7 j8 j9 l5); obtain ⟨o8, e8, e9, j7, j8, j9, l5⟩ := o8.zf2 p7; (try clear j0 j6 l7 o0 o6 o7); obtain ⟨o9, j0, j6, l7, o0, o6, o7⟩ := o9.zf2 p7
   have b2 := b2.below p7 b2.lt
   clear t7 p7 q8
   have p8 := HY0.out
   have bI : ((Je Y : Int) == 0) = false := by simp; have := aO.2 p8; omega
   have bJ : (Je Y == 0) = false := by simp; have := aO.2 p8; omega
   have aP := lh (fun w => Jbc X Y w p8 (by omega) (by omega))
   have bA : Nat.gcd X Y = Nat.gcd Y (X % Y) := by rw [Nat.gcd_comm, Nat.gcd_rec, Nat.gcd_comm]
   rw [bA] at HGG
   have bO : Je (X % Y) <= Je Y := Jw (Nat.le_of_lt (Nat.mod_lt _ (by omega)))
   have bP : X % Y < Y := Nat.mod_lt _ (by omega)
   unfold Jh at aP
   generalize X / Y = Q at *
   generalize X % Y = R at *
   clear bA aO
   go_wp2_with fail
   refine (aP.out _).mono ?_
   rintro e w2 ⟨rfl, t8⟩
   have u4 := Ja (Ja p0 t8) (Ji w2 (.cells #[.int .u64 (lo Q : Int), .string (mo Q)] 61) (.cells #[.int .u64 (lo R : Int), .string (mo R)] 61))
   have b2 := ((b2.below t8 b2.lt).alloc (.cells #[.int .u64 (lo Q : Int), .string (mo Q)] 61)).alloc (.cells #[.int .u64 (lo R : Int), .string (mo R)] 61)
   have o8 := o8.below t8 o8.lt
   have o9 := o9.below t8 o9.lt
   have bK := o8.lt
   have bL := o9.lt
   have o8 := (o8.alloc (.cells #[.int .u64 (lo Q : Int), .string (mo Q)] 61)).alloc (.cells #[.int .u64 (lo R : Int), .string (mo R)] 61)
   have o9 := (o9.alloc (.cells #[.int .u64 (lo Q : Int), .string (mo Q)] 61)).alloc (.cells #[.int .u64 (lo R : Int), .string (mo R)] 61)
   have b8 := Blk.new2 w2 (.cells #[.int .u64 (lo Q : Int), .string (mo Q)] 61) 61 #[.int .u64 (lo R : Int), .string (mo R)]
   have n5 : ¬ w2.heap.size + 1 = g := by omega
   have n6 : ¬ w2.heap.size + 1 = h := by omega
   have n7 : ¬ g = w2.heap.size + 1 := by omega
   have n8 : ¬ h = w2.heap.size + 1 := by omega
   have u5 := p0.size
   have aQ := t8.size
   have n9 : ¬ w2.heap.size + 1 = w.heap.size + 1 + 1 := by have := hZ.out; omega
   clear t8 p0 aP
   clear e8 e9 j7 j8 j9 l5 j0 j6 l7 o0 o6 o7
   obtain ⟨e8, e9, j7, j8, j9, l5⟩ := o8.f2; obtain ⟨j0, j6, l7, o0, o6, o7⟩ := o9.f2
   obtain ⟨aR, aS⟩ := b8.c2
   go_upto_region 7 with fail
   generalize (w2.alloc (.cells #[.int .u64 (lo Q : Int), .string (mo Q)] 61)).alloc (.cells #[.int .u64 (lo R : Int), .string (mo R)] 61) = w3 at *
   go_cut [35] (fun _ wc => GB W g h Y R wc)
   case first =>
    go_region
    all_goals
     go_wp2_with fail
     go_meet
     obtain ⟨s1, s2⟩ := Ku o8 o9 aA (.int .u64 (lo Y : Int)) (.string (mo Y)) (.int .u64 (lo R : Int)) (.string (mo R))
     exact ⟨s1, s2, Jx ((((u4.setCell aB _).setCell aB _).setCell aC _).setCell aC _) 1⟩
   case rest =>
    have x7 : Blk W (w.heap.size + 1 + 1) 61 #[.int .u64 0, .string ⟨#[]⟩] := by assumption
    clear e8 e9 j7 j8 j9 l5 j0 j6 l7 o0 o6 o7
    clear o8 o9 aR aS b8 n5 n6 n7 n8 n9 bK bL u4 b2 u5 aQ bI bJ
    obtain ⟨o8, o9, q8⟩ := hcut
    have t7 := lh (fun w => Qk R w (by omega))
    unfold Jh at t7
    have b2 := x7.below q8 x7.lt
    obtain ⟨e8, e9, j7, j8, j9, l5⟩ := o8.f2; obtain ⟨j0, j6, l7, o0, o6, o7⟩ := o9.f2
    have aT := Qq R
    go_wp2_with fail
    refine (t7.out _).mono ?_
    rintro e w1 ⟨rfl, p7⟩
    have p0 := Ja q8 p7
    (try clear e8 e9 j7 j8 j9 l5); obtain ⟨o8, e8, e9, j7, j8, j9, l5⟩ := o8.zf2 p7; (try clear j0 j6 l7 o0 o6 o7); obtain ⟨o9, j0, j6, l7, o0, o6, o7⟩ := o9.zf2 p7
    have b2 := b2.below p7 b2.lt
    clear t7 p7 q8
    have p9 := HR0.out
    have bQ : ((Je R : Int) == 0) = false := by simp; have := aT.2 p9; omega
    have bR : (Je R == 0) = false := by simp; have := aT.2 p9; omega
    clear aT
    have hsm := fun w => Jau Y w
    have s9 := HYs.out
    rw [if_neg s9] at hsm
    have aD := fun w (hT : Tab w) => Jdw Y R w (by omega) p9 (by omega) (by omega) hT
    rw [HGG.out] at aD
    unfold Jh at hsm aD
    have HSM := lh hsm
    have HBN := lh aD
    clear hsm aD
    go_wp2_with fail
    refine (HSM.out _).mono ?_
    rintro e w3 ⟨rfl, x8⟩
    have x9 := Ja p0 x8
    (try clear e8 e9 j7 j8 j9 l5); obtain ⟨o8, e8, e9, j7, j8, j9, l5⟩ := o8.zf2 x8; (try clear j0 j6 l7 o0 o6 o7); obtain ⟨o9, j0, j6, l7, o0, o6, o7⟩ := o9.zf2 x8
    have b2 := b2.below x8 b2.lt
    clear x8 p0
    go_wp2_with fail
    refine (HBN.out _ (bC.next x9)).mono ?_
    rintro e w4 ⟨rfl, bB⟩
    have aU := Ja x9 bB
    (try clear aV aW aX aY y8 y9); obtain ⟨b2, aV, aW, aX, aY, y8, y9⟩ := b2.zf2 bB
    go_wp2
    refine bodyPost_ret (v := .agg #[.int .u64 (lo GG : Int), .string (mo GG)]) (by simp [results, Tryz.results74, go_sem, y8, y9]) rfl ?_
    exact ⟨rfl, Xg (Ja hB aU) (by omega) _ _⟩
theorem Jci (x y : Int) (X Y : Nat) (w : World) (hx : Je x.natAbs <= 549755813888) (hy : Je y.natAbs <= 549755813888) (hT : Tab w) (hX : X = if x.natAbs < y.natAbs then y.natAbs else x.natAbs) (hY : Y = if x.natAbs < y.natAbs then x.natAbs else y.natAbs) :
  Calls Tryz.prog 74 #[Js x, Js y] w (Ret (Jh (Nat.gcd X Y)) w) := by
 by_cases p8 : Y = 0
 ·exact Jew x y X Y w hx hy hT hX hY p8
 by_cases p9 : X % Y = 0
 ·exact Jev x y X Y w hx hy hT hX hY p8 p9
 by_cases s9 : Y < 18446744073709551616
 ·exact Jeu x y X Y w hx hy hT hX hY p8 p9 s9
 exact Jet x y X Y w hx hy hT hX hY p8 p9 s9
theorem Ke (x y : Int) (w : World) (hx : Je x.natAbs <= 549755813888) (hy : Je y.natAbs <= 549755813888) (hT : Tab w) :
  Calls Tryz.prog 74 #[Js x, Js y] w (Ret (Jh (Nat.gcd x.natAbs y.natAbs)) w) := by
 have h := Jci x y _ _ w hx hy hT rfl rfl
 have e : Nat.gcd (if x.natAbs < y.natAbs then y.natAbs else x.natAbs) (if x.natAbs < y.natAbs then x.natAbs else y.natAbs) = Nat.gcd x.natAbs y.natAbs := by
  split
  ·exact Nat.gcd_comm _ _
  rfl
 rw [e] at h
 exact h
