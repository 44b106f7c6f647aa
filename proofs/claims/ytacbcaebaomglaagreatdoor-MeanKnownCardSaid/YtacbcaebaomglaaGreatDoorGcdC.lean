import Derived.Test.YtacbcaebaomglaaGreatDoorGcdPA
namespace Go.Proofs.YtacbcaebaomglaaGreatDoor
set_option maxRecDepth 100000
set_option maxHeartbeats 1000000
open Go.RowKit
set_option linter.all false
theorem Jeu (x y : Int) (X Y : Nat) (w : World) (hx : Je x.natAbs <= 549755813888) (hy : Je y.natAbs <= 549755813888) (hT : Tab w) (hX : X = if x.natAbs < y.natAbs then y.natAbs else x.natAbs) (hY : Y = if x.natAbs < y.natAbs then x.natAbs else y.natAbs) (t8 : Y ≠ 0) (u5 : X % Y ≠ 0) (x7 : Y < 18446744073709551616) :
  Calls Tryz.prog 74 #[Js x, Js y] w (Ret (Jh (Nat.gcd X Y)) w) := by
 have HY0 := lh t8
 have HR0 := lh u5
 have HYs := lh x7
 clear t8 u5 x7
 have bR : Je X <= 549755813888 := by rw [hX]; split <;> assumption
 have bS : Je Y <= 549755813888 := by rw [hY]; split <;> assumption
 have aJ := lh (fun w => Xv x.natAbs y.natAbs w (by omega) (by omega))
 obtain ⟨GG, aK⟩ : ∃ GG, Nat.gcd X Y = GG := ⟨_, rfl⟩
 rw [aK]
 have HGG := lh aK
 clear aK
 have HXY := lh (And.intro hX hY)
 clear hX hY
 unfold Js
 generalize hnx : decide (x < 0) = nx
 generalize hny : decide (y < 0) = ny
 clear hnx hny
 generalize x.natAbs = a at *
 generalize y.natAbs = b at *
 unfold Jh at aJ ⊢
 obtain ⟨b0, b1, b2, hB, hZ⟩ := bx3 w 63 #[.bool nx, .int .u64 (lo a : Int), .string (mo a)] 63 #[.bool ny, .int .u64 (lo b : Int), .string (mo b)] 61 #[.int .u64 0, .string ⟨#[]⟩]
 have bT := hT.next hB
 go_enter Tryz.func74, Tryz.ntmps74
 go_upto_region 1 with fail
 generalize (((w.alloc (.cells #[.bool nx, .int .u64 (lo a : Int), .string (mo a)] 63)).alloc (.cells #[.bool ny, .int .u64 (lo b : Int), .string (mo b)] 63)).alloc (.cells #[.int .u64 0, .string ⟨#[]⟩] 61)) = W at *
 obtain ⟨aL, aM, aN⟩ := b0.c3; obtain ⟨aO, aP, aQ⟩ := b1.c3
 have bG := b0.lt
 have bH := b1.lt
 go_cut [5, 6] (fun v5 v6 wc => Jkt W a b v5 v6 wc)
 case first =>
  go_region
  all_goals
   go_wp2_with fail
   go_meet
   first
    | exact ⟨W.heap.size, W.heap.size + 1, rfl, rfl, by omega, by omega, by omega, (Blk.new W 61 #[.int .u64 (lo a : Int), .string (mo a)]).alloc _, Blk.new2 W _ 61 #[.int .u64 (lo b : Int), .string (mo b)], Jx (Ji W _ _) 1⟩
    | exact ⟨W.heap.size + 1, W.heap.size, rfl, rfl, by omega, by omega, by omega, Blk.new2 W _ 61 #[.int .u64 (lo a : Int), .string (mo a)], (Blk.new W 61 #[.int .u64 (lo b : Int), .string (mo b)]).alloc _, Jx (Ji W _ _) 1⟩
 case rest =>
  obtain ⟨g, h, rfl, rfl, aG, aH, aI, o8, o9, p8⟩ := hcut
  clear aL aM aN aO aP aQ b0 b1 bG bH
  have bI : ¬ h = g := fun e => aG e.symm
  have bJ : ¬ g = h := aG
  obtain ⟨e8, e9⟩ := o8.c2; obtain ⟨j0, j6⟩ := o9.c2
  go_wp2_with fail
  refine (aJ.out _).mono ?_
  rintro e w1 ⟨rfl, p7⟩
  have p0 := Ja p8 p7
  (try clear e8 e9 j7 j8 j9 l5); obtain ⟨o8, e8, e9, j7, j8, j9, l5⟩ := o8.zf2 p7; (try clear j0 j6 l7 o0 o6 o7); obtain ⟨o9, j0, j6, l7, o0, o6, o7⟩ := o9.zf2 p7
  obtain ⟨cv, aR⟩ : ∃ cv, Qw a b = cv := ⟨_, rfl⟩
  rw [aR]
  have bD : cv < 0 ↔ a < b := by
   rw [<- aR]
   unfold Qw
   split
   ·simp; assumption
   split <;> simp <;> omega
  have HCL := lh bD
  clear aR bD aJ p8 p7
  go_upto_if 21 with fail
  go_cut [20] (fun _ wc => GB W g h X Y wc)
  case first =>
   by_cases q8 : a < b
   ·have aS : X = b /\ Y = a := by have := HXY.out; rw [if_pos q8, if_pos q8] at this; exact this
    obtain ⟨rfl, rfl⟩ := aS
    have bK := HCL.out.2 q8
    clear HXY HCL q8
    go_wp2
    go_meet
    obtain ⟨s1, s2⟩ := Ku o8 o9 aG (.int .u64 (lo X : Int)) (.string (mo X)) (.int .u64 (lo Y : Int)) (.string (mo Y))
    exact ⟨s1, s2, (((p0.setCell aH _).setCell aH _).setCell aI _).setCell aI _⟩
   have aS : X = a /\ Y = b := by have := HXY.out; rw [if_neg q8, if_neg q8] at this; exact this
   obtain ⟨rfl, rfl⟩ := aS
   have bK : ¬ cv < 0 := fun h => q8 (HCL.out.1 h)
   clear HXY HCL q8
   go_wp2
   go_meet
   exact ⟨o8, o9, p0⟩
  case rest =>
   clear e8 e9 j7 j8 j9 l5 j0 j6 l7 o0 o6 o7
   clear o8 o9 p0 HCL HXY
   obtain ⟨o8, o9, p8⟩ := hcut
   have t7 := lh (fun w => Qk Y w (by omega))
   unfold Jh at t7
   have b2 := b2.below p8 b2.lt
   obtain ⟨e8, e9, j7, j8, j9, l5⟩ := o8.f2; obtain ⟨j0, j6, l7, o0, o6, o7⟩ := o9.f2
   have aT := Qq Y
   have n1 : ¬ g = w.heap.size + 1 + 1 := by have := hZ.out; omega
   have n2 : ¬ w.heap.size + 1 + 1 = g := by have := hZ.out; omega
   have n3 : ¬ h = w.heap.size + 1 + 1 := by have := hZ.out; omega
   have n4 : ¬ w.heap.size + 1 + 1 = h := by have := hZ.out; omega
   go_wp2_with fail
   refine (t7.out _).mono ?_
   rintro e w1 ⟨rfl, p7⟩
   have p0 := Ja p8 p7
   (try clear e8 e9 j7 j8 j9 l5); obtain ⟨o8, e8, e9, j7, j8, j9, l5⟩ := o8.zf2 p7; (try clear j0 j6 l7 o0 o6 o7); obtain ⟨o9, j0, j6, l7, o0, o6, o7⟩ := o9.zf2 p7
   have b2 := b2.below p7 b2.lt
   clear t7 p7 p8
   have t8 := HY0.out
   have bL : ((Je Y : Int) == 0) = false := by simp; have := aT.2 t8; omega
   have bM : (Je Y == 0) = false := by simp; have := aT.2 t8; omega
   have aU := lh (fun w => Jbc X Y w t8 (by omega) (by omega))
   have bE : Nat.gcd X Y = Nat.gcd Y (X % Y) := by rw [Nat.gcd_comm, Nat.gcd_rec, Nat.gcd_comm]
   rw [bE] at HGG
   have bU : Je (X % Y) <= Je Y := Jw (Nat.le_of_lt (Nat.mod_lt _ (by omega)))
   have bV : X % Y < Y := Nat.mod_lt _ (by omega)
   unfold Jh at aU
   generalize X / Y = Q at *
   generalize X % Y = R at *
   clear bE aT
   go_wp2_with fail
   refine (aU.out _).mono ?_
   rintro e w2 ⟨rfl, u4⟩
   have x8 := Ja (Ja p0 u4) (Ji w2 (.cells #[.int .u64 (lo Q : Int), .string (mo Q)] 61) (.cells #[.int .u64 (lo R : Int), .string (mo R)] 61))
   have b2 := ((b2.below u4 b2.lt).alloc (.cells #[.int .u64 (lo Q : Int), .string (mo Q)] 61)).alloc (.cells #[.int .u64 (lo R : Int), .string (mo R)] 61)
   have o8 := o8.below u4 o8.lt
   have o9 := o9.below u4 o9.lt
   have aV := o8.lt
   have bN := o9.lt
   have o8 := (o8.alloc (.cells #[.int .u64 (lo Q : Int), .string (mo Q)] 61)).alloc (.cells #[.int .u64 (lo R : Int), .string (mo R)] 61)
   have o9 := (o9.alloc (.cells #[.int .u64 (lo Q : Int), .string (mo Q)] 61)).alloc (.cells #[.int .u64 (lo R : Int), .string (mo R)] 61)
   have b8 := Blk.new2 w2 (.cells #[.int .u64 (lo Q : Int), .string (mo Q)] 61) 61 #[.int .u64 (lo R : Int), .string (mo R)]
   have n5 : ¬ w2.heap.size + 1 = g := by omega
   have n6 : ¬ w2.heap.size + 1 = h := by omega
   have n7 : ¬ g = w2.heap.size + 1 := by omega
   have n8 : ¬ h = w2.heap.size + 1 := by omega
   have x9 := p0.size
   have aW := u4.size
   have n9 : ¬ w2.heap.size + 1 = w.heap.size + 1 + 1 := by have := hZ.out; omega
   clear u4 p0 aU
   clear e8 e9 j7 j8 j9 l5 j0 j6 l7 o0 o6 o7
   obtain ⟨e8, e9, j7, j8, j9, l5⟩ := o8.f2; obtain ⟨j0, j6, l7, o0, o6, o7⟩ := o9.f2
   obtain ⟨aX, aY⟩ := b8.c2
   go_upto_region 7 with fail
   generalize (w2.alloc (.cells #[.int .u64 (lo Q : Int), .string (mo Q)] 61)).alloc (.cells #[.int .u64 (lo R : Int), .string (mo R)] 61) = w3 at *
   go_cut [35] (fun _ wc => GB W g h Y R wc)
   case first =>
    go_region
    all_goals
     go_wp2_with fail
     go_meet
     obtain ⟨s1, s2⟩ := Ku o8 o9 aG (.int .u64 (lo Y : Int)) (.string (mo Y)) (.int .u64 (lo R : Int)) (.string (mo R))
     exact ⟨s1, s2, Jx ((((x8.setCell aH _).setCell aH _).setCell aI _).setCell aI _) 1⟩
   case rest =>
    have y8 : Blk W (w.heap.size + 1 + 1) 61 #[.int .u64 0, .string ⟨#[]⟩] := by assumption
    clear e8 e9 j7 j8 j9 l5 j0 j6 l7 o0 o6 o7
    clear o8 o9 aX aY b8 n5 n6 n7 n8 n9 aV bN x8 b2 x9 aW bL bM
    obtain ⟨o8, o9, p8⟩ := hcut
    have t7 := lh (fun w => Qk R w (by omega))
    unfold Jh at t7
    have b2 := y8.below p8 y8.lt
    obtain ⟨e8, e9, j7, j8, j9, l5⟩ := o8.f2; obtain ⟨j0, j6, l7, o0, o6, o7⟩ := o9.f2
    have aZ := Qq R
    go_wp2_with fail
    refine (t7.out _).mono ?_
    rintro e w1 ⟨rfl, p7⟩
    have p0 := Ja p8 p7
    (try clear e8 e9 j7 j8 j9 l5); obtain ⟨o8, e8, e9, j7, j8, j9, l5⟩ := o8.zf2 p7; (try clear j0 j6 l7 o0 o6 o7); obtain ⟨o9, j0, j6, l7, o0, o6, o7⟩ := o9.zf2 p7
    have b2 := b2.below p7 b2.lt
    clear t7 p7 p8
    have u5 := HR0.out
    have bO : ((Je R : Int) == 0) = false := by simp; have := aZ.2 u5; omega
    have bP : (Je R == 0) = false := by simp; have := aZ.2 u5; omega
    clear aZ
    have hsm := fun w => Jau Y w
    have x7 := HYs.out
    have p9 := fun w => Jau R w
    rw [if_pos x7] at hsm
    rw [if_pos (show R < 18446744073709551616 by omega)] at p9
    unfold Jh at hsm p9
    have HSM := lh hsm
    have HSM2 := lh p9
    clear hsm p9
    go_wp2_with fail
    refine (HSM.out _).mono ?_
    rintro e w3 ⟨rfl, y9⟩
    have aA := Ja p0 y9
    (try clear e8 e9 j7 j8 j9 l5); obtain ⟨o8, e8, e9, j7, j8, j9, l5⟩ := o8.zf2 y9; (try clear j0 j6 l7 o0 o6 o7); obtain ⟨o9, j0, j6, l7, o0, o6, o7⟩ := o9.zf2 y9
    have b2 := b2.below y9 b2.lt
    clear y9 p0
    go_wp2_with fail
    refine (HSM2.out _).mono ?_
    rintro e w4 ⟨rfl, bA⟩
    have aB := Ja aA bA
    have b2 := b2.below bA b2.lt
    clear e8 e9 j7 j8 j9 l5 j0 j6 l7 o0 o6 o7
    clear bA aA o8 o9 bO bP HSM HSM2
    go_wp2_with fail
    go_loopw [10, 12] (fun p q wr => ∃ m n : Nat, m < 18446744073709551616 /\ n < 18446744073709551616 /\ p = .int .u64 (m : Int) /\ q = .int .u64 (n : Int) /\ Hid (Nat.gcd m n = GG) /\ Blk wr (w.heap.size + 1 + 1) 61 #[.int .u64 0, .string ⟨#[]⟩] /\ Below W.heap.size W wr) (fun _ q _ => (intOf q).toNat)
    case atStart => exact ⟨Y, R, x7, by omega, rfl, rfl, HGG, b2, aB⟩
    case round =>
     obtain ⟨m, n, hm, hn, rfl, rfl, hg, bB, bF⟩ := hrel
     clear b2 aB
     by_cases bQ : 0 < n
     ·have bW : (0 : Int) < (n : Int) := by omega
      have hn2 : ¬ (n : Int) = 0 := by omega
      have bX : (m : Int).tmod (n : Int) = ((m % n : Nat) : Int) := rfl
      have bY : (m : Int) % (n : Int) = ((m % n : Nat) : Int) := rfl
      have bZ : m % n < n := Nat.mod_lt _ bQ
      have k2 : IntKind.u64.wrap ((m % n : Nat) : Int) = ((m % n : Nat) : Int) := Jc _ (by omega) (by omega)
      have aV : Hid (Nat.gcd n (m % n) = GG) := lh (by rw [<- hg.out, Nat.gcd_comm m n, Nat.gcd_rec n m, Nat.gcd_comm])
      generalize m % n = r at *
      go_wp2_with fail
      go_region
      go_wp2
      exact ⟨⟨n, r, hn, by omega, rfl, rfl, aV, bB, Jx bF 1⟩, by simp [intOf]; omega⟩
     obtain rfl : n = 0 := by omega
     obtain rfl : m = GG := by rw [<- hg.out, Nat.gcd_zero_right]
     have bC := fun w => Jd3 m w hm
     unfold Jh at bC
     have HOF := lh bC
     clear bC
     go_wp2_with fail
     refine (HOF.out _).mono ?_
     rintro e w5 ⟨rfl, o8⟩
     (try clear aC aD aE aF q9 s9); obtain ⟨bB, aC, aD, aE, aF, q9, s9⟩ := bB.zf2 o8
     go_wp2
     refine bodyPost_ret (v := .agg #[.int .u64 (lo m : Int), .string (mo m)]) (by simp [results, Tryz.results74, go_sem, q9, s9]) rfl ?_
     exact ⟨rfl, Xg (Ja (Ja hB bF) o8) (by omega) _ _⟩
