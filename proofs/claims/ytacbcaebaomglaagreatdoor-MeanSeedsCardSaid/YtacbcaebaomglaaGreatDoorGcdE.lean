import Derived.Test.YtacbcaebaomglaaGreatDoorGcdB
import Derived.Test.YtacbcaebaomglaaGreatDoorGcdC
namespace Go.Proofs.YtacbcaebaomglaaGreatDoor
set_option maxRecDepth 100000
set_option maxHeartbeats 1000000
open Go.RowKit
set_option linter.all false
theorem Jg9 (x y : Int) (X Y : Nat) (w : World) (hx : Je x.natAbs <= 549755813888) (hy : Je y.natAbs <= 549755813888) (hT : Tab w) (hX : X = if x.natAbs < y.natAbs then y.natAbs else x.natAbs) (hY : Y = if x.natAbs < y.natAbs then x.natAbs else y.natAbs) (s9 : Y ≠ 0) (t7 : X % Y ≠ 0) (x7 : ¬ Y < 18446744073709551616) :
  Calls Tryz.prog 74 #[Jx x, Jx y] w (Ret (Jh (Nat.gcd X Y)) w) := by
 have HY0 := lh s9
 have HR0 := lh t7
 have HYs := lh x7
 clear s9 t7 x7
 have bR : Je X <= 549755813888 := by rw [hX]; split <;> assumption
 have bS : Je Y <= 549755813888 := by rw [hY]; split <;> assumption
 have aJ := lh (fun w => Zt x.natAbs y.natAbs w (by omega) (by omega))
 obtain ⟨GG, aK⟩ : ∃ GG, Nat.gcd X Y = GG := ⟨_, rfl⟩
 rw [aK]
 have HGG := lh aK
 clear aK
 have HXY := lh (And.intro hX hY)
 clear hX hY
 unfold Jx
 generalize hnx : decide (x < 0) = nx
 generalize hny : decide (y < 0) = ny
 clear hnx hny
 generalize x.natAbs = a at *
 generalize y.natAbs = b at *
 unfold Jh at aJ ⊢
 obtain ⟨b0, b1, b2, hB, hZ⟩ := bx3 w 63 #[.bool nx, .int .u64 (lo a : Int), .string (mo a)] 63 #[.bool ny, .int .u64 (lo b : Int), .string (mo b)] 61 #[.int .u64 0, .string ⟨#[]⟩]
 have bH := hT.next hB
 go_enter Tryz.func74, Tryz.ntmps74
 go_upto_region 1 with fail
 generalize (((w.alloc (.cells #[.bool nx, .int .u64 (lo a : Int), .string (mo a)] 63)).alloc (.cells #[.bool ny, .int .u64 (lo b : Int), .string (mo b)] 63)).alloc (.cells #[.int .u64 0, .string ⟨#[]⟩] 61)) = W at *
 obtain ⟨aL, aM, aN⟩ := b0.c3; obtain ⟨aO, aP, aQ⟩ := b1.c3
 have bI := b0.lt
 have bJ := b1.lt
 go_cut [5, 6] (fun v5 v6 wc => Jnt W a b v5 v6 wc)
 case first =>
  go_region
  all_goals
   go_wp2_with fail
   go_meet
   first
    | exact ⟨W.heap.size, W.heap.size + 1, rfl, rfl, by omega, by omega, by omega, (Blk.new W 61 #[.int .u64 (lo a : Int), .string (mo a)]).alloc _, Blk.new2 W _ 61 #[.int .u64 (lo b : Int), .string (mo b)], Jy (Jj W _ _) 1⟩
    | exact ⟨W.heap.size + 1, W.heap.size, rfl, rfl, by omega, by omega, by omega, Blk.new2 W _ 61 #[.int .u64 (lo a : Int), .string (mo a)], (Blk.new W 61 #[.int .u64 (lo b : Int), .string (mo b)]).alloc _, Jy (Jj W _ _) 1⟩
 case rest =>
  obtain ⟨g, h, rfl, rfl, aF, aG, aH, p7, p8, t8⟩ := hcut
  clear aL aM aN aO aP aQ b0 b1 bI bJ
  have bK : ¬ h = g := fun e => aF e.symm
  have bL : ¬ g = h := aF
  obtain ⟨e8, e9⟩ := p7.c2; obtain ⟨j0, j6⟩ := p8.c2
  go_wp2_with fail
  refine (aJ.out _).mono ?_
  rintro e w1 ⟨rfl, q8⟩
  have p9 := Ja t8 q8
  (try clear e8 e9 j7 j8 j9 o0); obtain ⟨p7, e8, e9, j7, j8, j9, o0⟩ := p7.zf2 q8; (try clear j0 j6 o6 o7 o8 o9); obtain ⟨p8, j0, j6, o6, o7, o8, o9⟩ := p8.zf2 q8
  obtain ⟨cv, aR⟩ : ∃ cv, Qx a b = cv := ⟨_, rfl⟩
  rw [aR]
  have bE : cv < 0 ↔ a < b := by
   rw [<- aR]
   unfold Qx
   split
   ·simp; assumption
   split <;> simp <;> omega
  have HCL := lh bE
  clear aR bE aJ t8 q8
  go_upto_if 21 with fail
  go_cut [20] (fun _ wc => GB W g h X Y wc)
  case first =>
   by_cases u4 : a < b
   ·have aS : X = b /\ Y = a := by have := HXY.out; rw [if_pos u4, if_pos u4] at this; exact this
    obtain ⟨rfl, rfl⟩ := aS
    have bM := HCL.out.2 u4
    clear HXY HCL u4
    go_wp2
    go_meet
    obtain ⟨s1, s2⟩ := Ve p7 p8 aF (.int .u64 (lo X : Int)) (.string (mo X)) (.int .u64 (lo Y : Int)) (.string (mo Y))
    exact ⟨s1, s2, (((p9.setCell aG _).setCell aG _).setCell aH _).setCell aH _⟩
   have aS : X = a /\ Y = b := by have := HXY.out; rw [if_neg u4, if_neg u4] at this; exact this
   obtain ⟨rfl, rfl⟩ := aS
   have bM : ¬ cv < 0 := fun h => u4 (HCL.out.1 h)
   clear HXY HCL u4
   go_wp2
   go_meet
   exact ⟨p7, p8, p9⟩
  case rest =>
   clear e8 e9 j7 j8 j9 o0 j0 j6 o6 o7 o8 o9
   clear p7 p8 p9 HCL HXY
   obtain ⟨p7, p8, t8⟩ := hcut
   have x8 := lh (fun w => Qr Y w (by omega))
   unfold Jh at x8
   have b2 := b2.below t8 b2.lt
   obtain ⟨e8, e9, j7, j8, j9, o0⟩ := p7.f2; obtain ⟨j0, j6, o6, o7, o8, o9⟩ := p8.f2
   have aT := Qz Y
   have n1 : ¬ g = w.heap.size + 1 + 1 := by have := hZ.out; omega
   have n2 : ¬ w.heap.size + 1 + 1 = g := by have := hZ.out; omega
   have n3 : ¬ h = w.heap.size + 1 + 1 := by have := hZ.out; omega
   have n4 : ¬ w.heap.size + 1 + 1 = h := by have := hZ.out; omega
   go_wp2_with fail
   refine (x8.out _).mono ?_
   rintro e w1 ⟨rfl, q8⟩
   have p9 := Ja t8 q8
   (try clear e8 e9 j7 j8 j9 o0); obtain ⟨p7, e8, e9, j7, j8, j9, o0⟩ := p7.zf2 q8; (try clear j0 j6 o6 o7 o8 o9); obtain ⟨p8, j0, j6, o6, o7, o8, o9⟩ := p8.zf2 q8
   have b2 := b2.below q8 b2.lt
   clear x8 q8 t8
   have s9 := HY0.out
   have bN : ((Je Y : Int) == 0) = false := by simp; have := aT.2 s9; omega
   have bO : (Je Y == 0) = false := by simp; have := aT.2 s9; omega
   have aU := lh (fun w => Jdc X Y w s9 (by omega) (by omega))
   have bF : Nat.gcd X Y = Nat.gcd Y (X % Y) := by rw [Nat.gcd_comm, Nat.gcd_rec, Nat.gcd_comm]
   rw [bF] at HGG
   have bT : Je (X % Y) <= Je Y := Jz (Nat.le_of_lt (Nat.mod_lt _ (by omega)))
   have bU : X % Y < Y := Nat.mod_lt _ (by omega)
   unfold Jh at aU
   generalize X / Y = Q at *
   generalize X % Y = R at *
   clear bF aT
   go_wp2_with fail
   refine (aU.out _).mono ?_
   rintro e w2 ⟨rfl, x9⟩
   have y8 := Ja (Ja p9 x9) (Jj w2 (.cells #[.int .u64 (lo Q : Int), .string (mo Q)] 61) (.cells #[.int .u64 (lo R : Int), .string (mo R)] 61))
   have b2 := ((b2.below x9 b2.lt).alloc (.cells #[.int .u64 (lo Q : Int), .string (mo Q)] 61)).alloc (.cells #[.int .u64 (lo R : Int), .string (mo R)] 61)
   have p7 := p7.below x9 p7.lt
   have p8 := p8.below x9 p8.lt
   have bP := p7.lt
   have bQ := p8.lt
   have p7 := (p7.alloc (.cells #[.int .u64 (lo Q : Int), .string (mo Q)] 61)).alloc (.cells #[.int .u64 (lo R : Int), .string (mo R)] 61)
   have p8 := (p8.alloc (.cells #[.int .u64 (lo Q : Int), .string (mo Q)] 61)).alloc (.cells #[.int .u64 (lo R : Int), .string (mo R)] 61)
   have b8 := Blk.new2 w2 (.cells #[.int .u64 (lo Q : Int), .string (mo Q)] 61) 61 #[.int .u64 (lo R : Int), .string (mo R)]
   have n5 : ¬ w2.heap.size + 1 = g := by omega
   have n6 : ¬ w2.heap.size + 1 = h := by omega
   have n7 : ¬ g = w2.heap.size + 1 := by omega
   have n8 : ¬ h = w2.heap.size + 1 := by omega
   have y9 := p9.size
   have aV := x9.size
   have n9 : ¬ w2.heap.size + 1 = w.heap.size + 1 + 1 := by have := hZ.out; omega
   clear x9 p9 aU
   clear e8 e9 j7 j8 j9 o0 j0 j6 o6 o7 o8 o9
   obtain ⟨e8, e9, j7, j8, j9, o0⟩ := p7.f2; obtain ⟨j0, j6, o6, o7, o8, o9⟩ := p8.f2
   obtain ⟨aW, aX⟩ := b8.c2
   go_upto_region 7 with fail
   generalize (w2.alloc (.cells #[.int .u64 (lo Q : Int), .string (mo Q)] 61)).alloc (.cells #[.int .u64 (lo R : Int), .string (mo R)] 61) = w3 at *
   go_cut [35] (fun _ wc => GB W g h Y R wc)
   case first =>
    go_region
    all_goals
     go_wp2_with fail
     go_meet
     obtain ⟨s1, s2⟩ := Ve p7 p8 aF (.int .u64 (lo Y : Int)) (.string (mo Y)) (.int .u64 (lo R : Int)) (.string (mo R))
     exact ⟨s1, s2, Jy ((((y8.setCell aG _).setCell aG _).setCell aH _).setCell aH _) 1⟩
   case rest =>
    have aA : Blk W (w.heap.size + 1 + 1) 61 #[.int .u64 0, .string ⟨#[]⟩] := by assumption
    clear e8 e9 j7 j8 j9 o0 j0 j6 o6 o7 o8 o9
    clear p7 p8 aW aX b8 n5 n6 n7 n8 n9 bP bQ y8 b2 y9 aV bN bO
    obtain ⟨p7, p8, t8⟩ := hcut
    have x8 := lh (fun w => Qr R w (by omega))
    unfold Jh at x8
    have b2 := aA.below t8 aA.lt
    obtain ⟨e8, e9, j7, j8, j9, o0⟩ := p7.f2; obtain ⟨j0, j6, o6, o7, o8, o9⟩ := p8.f2
    have aY := Qz R
    go_wp2_with fail
    refine (x8.out _).mono ?_
    rintro e w1 ⟨rfl, q8⟩
    have p9 := Ja t8 q8
    (try clear e8 e9 j7 j8 j9 o0); obtain ⟨p7, e8, e9, j7, j8, j9, o0⟩ := p7.zf2 q8; (try clear j0 j6 o6 o7 o8 o9); obtain ⟨p8, j0, j6, o6, o7, o8, o9⟩ := p8.zf2 q8
    have b2 := b2.below q8 b2.lt
    clear x8 q8 t8
    have t7 := HR0.out
    have bV : ((Je R : Int) == 0) = false := by simp; have := aY.2 t7; omega
    have bW : (Je R == 0) = false := by simp; have := aY.2 t7; omega
    clear aY
    have hsm := fun w => Jcd Y w
    have x7 := HYs.out
    rw [if_neg x7] at hsm
    have aI := fun w (hT : Tab w) => Jf9 Y R w (by omega) t7 (by omega) (by omega) hT
    rw [HGG.out] at aI
    unfold Jh at hsm aI
    have HSM := lh hsm
    have HBN := lh aI
    clear hsm aI
    go_wp2_with fail
    refine (HSM.out _).mono ?_
    rintro e w3 ⟨rfl, aB⟩
    have aC := Ja p9 aB
    (try clear e8 e9 j7 j8 j9 o0); obtain ⟨p7, e8, e9, j7, j8, j9, o0⟩ := p7.zf2 aB; (try clear j0 j6 o6 o7 o8 o9); obtain ⟨p8, j0, j6, o6, o7, o8, o9⟩ := p8.zf2 aB
    have b2 := b2.below aB b2.lt
    clear aB p9
    go_wp2_with fail
    refine (HBN.out _ (bH.next aC)).mono ?_
    rintro e w4 ⟨rfl, bG⟩
    have aZ := Ja aC bG
    (try clear bA bB bC bD aD aE); obtain ⟨b2, bA, bB, bC, bD, aD, aE⟩ := b2.zf2 bG
    go_wp2
    refine bodyPost_ret (v := .agg #[.int .u64 (lo GG : Int), .string (mo GG)]) (by simp [results, Tryz.results74, go_sem, aD, aE]) rfl ?_
    exact ⟨rfl, Za (Ja hB aZ) (by omega) _ _⟩
theorem Jeo (x y : Int) (X Y : Nat) (w : World) (hx : Je x.natAbs <= 549755813888) (hy : Je y.natAbs <= 549755813888) (hT : Tab w) (hX : X = if x.natAbs < y.natAbs then y.natAbs else x.natAbs) (hY : Y = if x.natAbs < y.natAbs then x.natAbs else y.natAbs) :
  Calls Tryz.prog 74 #[Jx x, Jx y] w (Ret (Jh (Nat.gcd X Y)) w) := by
 by_cases s9 : Y = 0
 ·exact Jhc x y X Y w hx hy hT hX hY s9
 by_cases t7 : X % Y = 0
 ·exact Jhb x y X Y w hx hy hT hX hY s9 t7
 by_cases x7 : Y < 18446744073709551616
 ·exact Jha x y X Y w hx hy hT hX hY s9 t7 x7
 exact Jg9 x y X Y w hx hy hT hX hY s9 t7 x7
theorem Uq (x y : Int) (w : World) (hx : Je x.natAbs <= 549755813888) (hy : Je y.natAbs <= 549755813888) (hT : Tab w) :
  Calls Tryz.prog 74 #[Jx x, Jx y] w (Ret (Jh (Nat.gcd x.natAbs y.natAbs)) w) := by
 have h := Jeo x y _ _ w hx hy hT rfl rfl
 have e : Nat.gcd (if x.natAbs < y.natAbs then y.natAbs else x.natAbs) (if x.natAbs < y.natAbs then x.natAbs else y.natAbs) = Nat.gcd x.natAbs y.natAbs := by
  split
  ·exact Nat.gcd_comm _ _
  rfl
 rw [e] at h
 exact h
