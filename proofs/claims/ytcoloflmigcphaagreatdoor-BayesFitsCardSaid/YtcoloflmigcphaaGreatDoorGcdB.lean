import Derived.Test.YtcoloflmigcphaaGreatDoorGcdPA
namespace Go.Proofs.YtcoloflmigcphaaGreatDoor
set_option maxRecDepth 100000
set_option maxHeartbeats 1000000
open Go.RowKit
set_option linter.all false
theorem Jf1 (x y : Int) (X Y : Nat) (w : World) (hx : Je x.natAbs <= 549755813888) (hy : Je y.natAbs <= 549755813888) (hT : Tab w) (hX : X = if x.natAbs < y.natAbs then y.natAbs else x.natAbs) (hY : Y = if x.natAbs < y.natAbs then x.natAbs else y.natAbs) (aA : Y ≠ 0) (aF : X % Y = 0) :
  Calls Tryz.prog 80 #[Qj x, Qj y] w (Ret (Jg (Nat.gcd X Y)) w) := by
 have HY0 := lh aA
 have HR0 := lh aF
 clear aA aF
 have bQ : Je X <= 549755813888 := by rw [hX]; split <;> assumption
 have bS : Je Y <= 549755813888 := by rw [hY]; split <;> assumption
 have aJ := lh (fun w => Zb x.natAbs y.natAbs w (by omega) (by omega))
 obtain ⟨GG, aK⟩ : ∃ GG, Nat.gcd X Y = GG := ⟨_, rfl⟩
 rw [aK]
 have HGG := lh aK
 clear aK
 have HXY := lh (And.intro hX hY)
 clear hX hY
 unfold Qj
 generalize hnx : decide (x < 0) = nx
 generalize hny : decide (y < 0) = ny
 clear hnx hny
 generalize x.natAbs = a at *
 generalize y.natAbs = b at *
 unfold Jg at aJ ⊢
 obtain ⟨b0, b1, b2, hB, hZ⟩ := bx3 w 39 #[.bool nx, .int .u64 (lo a : Int), .string (mo a)] 39 #[.bool ny, .int .u64 (lo b : Int), .string (mo b)] 37 #[.int .u64 0, .string ⟨#[]⟩]
 have bT := hT.next hB
 go_enter Tryz.func80, Tryz.ntmps80
 go_upto_region 1 with fail
 generalize (((w.alloc (.cells #[.bool nx, .int .u64 (lo a : Int), .string (mo a)] 39)).alloc (.cells #[.bool ny, .int .u64 (lo b : Int), .string (mo b)] 39)).alloc (.cells #[.int .u64 0, .string ⟨#[]⟩] 37)) = W at *
 obtain ⟨aL, aM, aN⟩ := b0.c3; obtain ⟨aO, aP, aQ⟩ := b1.c3
 have bC := b0.lt
 have bD := b1.lt
 go_cut [5, 6] (fun v5 v6 wc => Jmw W a b v5 v6 wc)
 case first =>
  go_region
  all_goals
   go_wp2_with fail
   go_meet
   first
    | exact ⟨W.heap.size, W.heap.size + 1, rfl, rfl, by omega, by omega, by omega, (Blk.new W 37 #[.int .u64 (lo a : Int), .string (mo a)]).alloc _, Blk.new2 W _ 37 #[.int .u64 (lo b : Int), .string (mo b)], Jw (Jo W _ _) 1⟩
    | exact ⟨W.heap.size + 1, W.heap.size, rfl, rfl, by omega, by omega, by omega, Blk.new2 W _ 37 #[.int .u64 (lo a : Int), .string (mo a)], (Blk.new W 37 #[.int .u64 (lo b : Int), .string (mo b)]).alloc _, Jw (Jo W _ _) 1⟩
 case rest =>
  obtain ⟨g, h, rfl, rfl, aG, aH, aI, bZ, s9, cD⟩ := hcut
  clear aL aM aN aO aP aQ b0 b1 bC bD
  have bE : ¬ h = g := fun e => aG e.symm
  have bF : ¬ g = h := aG
  obtain ⟨j0, j6⟩ := bZ.c2; obtain ⟨j7, j8⟩ := s9.c2
  go_wp2_with fail
  refine (aJ.out _).mono ?_
  rintro e w1 ⟨rfl, cB⟩
  have cA := Ja cD cB
  (try clear j0 j6 j9 bR bW bX); obtain ⟨bZ, j0, j6, j9, bR, bW, bX⟩ := bZ.zf2 cB; (try clear j7 j8 o0 o9 bY p9); obtain ⟨s9, j7, j8, o0, o9, bY, p9⟩ := s9.zf2 cB
  obtain ⟨cv, aR⟩ : ∃ cv, Qz a b = cv := ⟨_, rfl⟩
  rw [aR]
  have bA : cv < 0 ↔ a < b := by
   rw [<- aR]
   unfold Qz
   split
   ·simp; assumption
   split <;> simp <;> omega
  have HCL := lh bA
  clear aR bA aJ cD cB
  go_upto_if 21 with fail
  go_cut [20] (fun _ wc => GB W g h X Y wc)
  case first =>
   by_cases cE : a < b
   ·have aS : X = b /\ Y = a := by have := HXY.out; rw [if_pos cE, if_pos cE] at this; exact this
    obtain ⟨rfl, rfl⟩ := aS
    have bG := HCL.out.2 cE
    clear HXY HCL cE
    go_wp2
    go_meet
    obtain ⟨s1, s2⟩ := Uc bZ s9 aG (.int .u64 (lo X : Int)) (.string (mo X)) (.int .u64 (lo Y : Int)) (.string (mo Y))
    exact ⟨s1, s2, (((cA.setCell aH _).setCell aH _).setCell aI _).setCell aI _⟩
   have aS : X = a /\ Y = b := by have := HXY.out; rw [if_neg cE, if_neg cE] at this; exact this
   obtain ⟨rfl, rfl⟩ := aS
   have bG : ¬ cv < 0 := fun h => cE (HCL.out.1 h)
   clear HXY HCL cE
   go_wp2
   go_meet
   exact ⟨bZ, s9, cA⟩
  case rest =>
   clear j0 j6 j9 bR bW bX j7 j8 o0 o9 bY p9
   clear bZ s9 cA HCL HXY
   obtain ⟨bZ, s9, cD⟩ := hcut
   have y9 := lh (fun w => Qn Y w (by omega))
   unfold Jg at y9
   have b2 := b2.below cD b2.lt
   obtain ⟨j0, j6, j9, bR, bW, bX⟩ := bZ.f2; obtain ⟨j7, j8, o0, o9, bY, p9⟩ := s9.f2
   have aT := Qv Y
   have n1 : ¬ g = w.heap.size + 1 + 1 := by have := hZ.out; omega
   have n2 : ¬ w.heap.size + 1 + 1 = g := by have := hZ.out; omega
   have n3 : ¬ h = w.heap.size + 1 + 1 := by have := hZ.out; omega
   have n4 : ¬ w.heap.size + 1 + 1 = h := by have := hZ.out; omega
   go_wp2_with fail
   refine (y9.out _).mono ?_
   rintro e w1 ⟨rfl, cB⟩
   have cA := Ja cD cB
   (try clear j0 j6 j9 bR bW bX); obtain ⟨bZ, j0, j6, j9, bR, bW, bX⟩ := bZ.zf2 cB; (try clear j7 j8 o0 o9 bY p9); obtain ⟨s9, j7, j8, o0, o9, bY, p9⟩ := s9.zf2 cB
   have b2 := b2.below cB b2.lt
   clear y9 cB cD
   have aA := HY0.out
   have bH : ((Je Y : Int) == 0) = false := by simp; have := aT.2 aA; omega
   have bI : (Je Y == 0) = false := by simp; have := aT.2 aA; omega
   have aU := lh (fun w => Jca X Y w aA (by omega) (by omega))
   have bB : Nat.gcd X Y = Nat.gcd Y (X % Y) := by rw [Nat.gcd_comm, Nat.gcd_rec, Nat.gcd_comm]
   rw [bB] at HGG
   have bU : Je (X % Y) <= Je Y := Qc (Nat.le_of_lt (Nat.mod_lt _ (by omega)))
   have bV : X % Y < Y := Nat.mod_lt _ (by omega)
   unfold Jg at aU
   generalize X / Y = Q at *
   generalize X % Y = R at *
   clear bB aT
   go_wp2_with fail
   refine (aU.out _).mono ?_
   rintro e w2 ⟨rfl, aB⟩
   have aC := Ja (Ja cA aB) (Jo w2 (.cells #[.int .u64 (lo Q : Int), .string (mo Q)] 37) (.cells #[.int .u64 (lo R : Int), .string (mo R)] 37))
   have b2 := ((b2.below aB b2.lt).alloc (.cells #[.int .u64 (lo Q : Int), .string (mo Q)] 37)).alloc (.cells #[.int .u64 (lo R : Int), .string (mo R)] 37)
   have bZ := bZ.below aB bZ.lt
   have s9 := s9.below aB s9.lt
   have bJ := bZ.lt
   have bK := s9.lt
   have bZ := (bZ.alloc (.cells #[.int .u64 (lo Q : Int), .string (mo Q)] 37)).alloc (.cells #[.int .u64 (lo R : Int), .string (mo R)] 37)
   have s9 := (s9.alloc (.cells #[.int .u64 (lo Q : Int), .string (mo Q)] 37)).alloc (.cells #[.int .u64 (lo R : Int), .string (mo R)] 37)
   have b8 := Blk.new2 w2 (.cells #[.int .u64 (lo Q : Int), .string (mo Q)] 37) 37 #[.int .u64 (lo R : Int), .string (mo R)]
   have n5 : ¬ w2.heap.size + 1 = g := by omega
   have n6 : ¬ w2.heap.size + 1 = h := by omega
   have n7 : ¬ g = w2.heap.size + 1 := by omega
   have n8 : ¬ h = w2.heap.size + 1 := by omega
   have aD := cA.size
   have aV := aB.size
   have n9 : ¬ w2.heap.size + 1 = w.heap.size + 1 + 1 := by have := hZ.out; omega
   clear aB cA aU
   clear j0 j6 j9 bR bW bX j7 j8 o0 o9 bY p9
   obtain ⟨j0, j6, j9, bR, bW, bX⟩ := bZ.f2; obtain ⟨j7, j8, o0, o9, bY, p9⟩ := s9.f2
   obtain ⟨aW, aX⟩ := b8.c2
   go_upto_region 7 with fail
   generalize (w2.alloc (.cells #[.int .u64 (lo Q : Int), .string (mo Q)] 37)).alloc (.cells #[.int .u64 (lo R : Int), .string (mo R)] 37) = w3 at *
   go_cut [35] (fun _ wc => GB W g h Y R wc)
   case first =>
    go_region
    all_goals
     go_wp2_with fail
     go_meet
     obtain ⟨s1, s2⟩ := Uc bZ s9 aG (.int .u64 (lo Y : Int)) (.string (mo Y)) (.int .u64 (lo R : Int)) (.string (mo R))
     exact ⟨s1, s2, Jw ((((aC.setCell aH _).setCell aH _).setCell aI _).setCell aI _) 1⟩
   case rest =>
    have aE : Blk W (w.heap.size + 1 + 1) 37 #[.int .u64 0, .string ⟨#[]⟩] := by assumption
    clear j0 j6 j9 bR bW bX j7 j8 o0 o9 bY p9
    clear bZ s9 aW aX b8 n5 n6 n7 n8 n9 bJ bK aC b2 aD aV bH bI
    obtain ⟨bZ, s9, cD⟩ := hcut
    have y9 := lh (fun w => Qn R w (by omega))
    unfold Jg at y9
    have b2 := aE.below cD aE.lt
    obtain ⟨j0, j6, j9, bR, bW, bX⟩ := bZ.f2; obtain ⟨j7, j8, o0, o9, bY, p9⟩ := s9.f2
    have bL := Qv R
    go_wp2_with fail
    refine (y9.out _).mono ?_
    rintro e w1 ⟨rfl, cB⟩
    have cA := Ja cD cB
    (try clear j0 j6 j9 bR bW bX); obtain ⟨bZ, j0, j6, j9, bR, bW, bX⟩ := bZ.zf2 cB; (try clear j7 j8 o0 o9 bY p9); obtain ⟨s9, j7, j8, o0, o9, bY, p9⟩ := s9.zf2 cB
    have b2 := b2.below cB b2.lt
    clear y9 cB cD
    have aF := HR0.out
    subst aF
    obtain rfl : Y = GG := by rw [<- HGG.out, Nat.gcd_zero_right]
    have e0 : Je 0 = 0 := rfl
    rw [e0]
    obtain ⟨bM, bN, bO, bP, aY, aZ⟩ := b2.f2
    clear e0 bL
    go_wp2
    refine bodyPost_ret (v := .agg #[.int .u64 (lo Y : Int), .string (mo Y)]) (by simp [results, Tryz.results80, go_sem, aY, aZ]) rfl ?_
    exact ⟨rfl, Xo (Ja hB cA) (by omega) _ _⟩
