import Derived.Test.YtcoloflmigcphaaGreatDoorGcdV
import Derived.Test.YtcoloflmigcphaaGreatDoorWholeM
import Derived.Test.YtcoloflmigcphaaGreatDoorNatDiv
namespace Go.Proofs.YtcoloflmigcphaaGreatDoor
set_option maxRecDepth 100000
set_option maxHeartbeats 1000000
open Go.RowKit
set_option linter.all false
theorem Uc {w : World} {g h : Nat} {t t' : TypeId} {a b c d : Value} (h1 : Blk w g t #[a, b]) (h2 : Blk w h t' #[c, d]) (y9 : g ≠ h) (x y z u : Value) :
  Blk ((((w.setCell ⟨g, 0, none⟩ x).setCell ⟨g, 1, none⟩ y).setCell ⟨h, 0, none⟩ z).setCell ⟨h, 1, none⟩ u) g t #[x, y] /\ Blk ((((w.setCell ⟨g, 0, none⟩ x).setCell ⟨g, 1, none⟩ y).setCell ⟨h, 0, none⟩ z).setCell ⟨h, 1, none⟩ u) h t' #[z, u] := by
 have e1 := (((h1.set_ 0 x).set_ 1 y).far (p := ⟨h, 0, none⟩) y9 z).far (p := ⟨h, 1, none⟩) y9 u
 have e2 := (((h2.far (p := ⟨g, 0, none⟩) (Ne.symm y9) x).far (p := ⟨g, 1, none⟩) (Ne.symm y9) y).set_ 0 z).set_ 1 u
 exact ⟨by simpa using e1, by simpa using e2⟩
def GB (W : World) (g h X Y : Nat) (wc : World) : Prop :=
 Blk wc g 37 #[.int .u64 (lo X : Int), .string (mo X)] /\ Blk wc h 37 #[.int .u64 (lo Y : Int), .string (mo Y)] /\ Below W.heap.size W wc
def Jmw (W : World) (X Y : Nat) (v5 v6 : Value) (wc : World) : Prop :=
 ∃ g h, v5 = .pointer (some ⟨g, 0, none⟩) /\ v6 = .pointer (some ⟨h, 0, none⟩) /\ g ≠ h /\ W.heap.size <= g /\ W.heap.size <= h /\ Blk wc g 37 #[.int .u64 (lo X : Int), .string (mo X)] /\ Blk wc h 37 #[.int .u64 (lo Y : Int), .string (mo Y)] /\ Below W.heap.size W wc
theorem Jf2 (x y : Int) (X Y : Nat) (w : World) (hx : Je x.natAbs <= 549755813888) (hy : Je y.natAbs <= 549755813888) (hT : Tab w) (hX : X = if x.natAbs < y.natAbs then y.natAbs else x.natAbs) (hY : Y = if x.natAbs < y.natAbs then x.natAbs else y.natAbs) (aA : Y = 0) :
  Calls Tryz.prog 80 #[Qj x, Qj y] w (Ret (Jg (Nat.gcd X Y)) w) := by
 have HY0 := lh aA
 clear aA
 have bC : Je X <= 549755813888 := by rw [hX]; split <;> assumption
 have bD : Je Y <= 549755813888 := by rw [hY]; split <;> assumption
 have aB := lh (fun w => Zb x.natAbs y.natAbs w (by omega) (by omega))
 obtain ⟨GG, aC⟩ : ∃ GG, Nat.gcd X Y = GG := ⟨_, rfl⟩
 rw [aC]
 have HGG := lh aC
 clear aC
 have HXY := lh (And.intro hX hY)
 clear hX hY
 unfold Qj
 generalize hnx : decide (x < 0) = nx
 generalize hny : decide (y < 0) = ny
 clear hnx hny
 generalize x.natAbs = a at *
 generalize y.natAbs = b at *
 unfold Jg at aB ⊢
 obtain ⟨b0, b1, b2, hB, hZ⟩ := bx3 w 39 #[.bool nx, .int .u64 (lo a : Int), .string (mo a)] 39 #[.bool ny, .int .u64 (lo b : Int), .string (mo b)] 37 #[.int .u64 0, .string ⟨#[]⟩]
 have bE := hT.next hB
 go_enter Tryz.func80, Tryz.ntmps80
 go_upto_region 1 with fail
 generalize (((w.alloc (.cells #[.bool nx, .int .u64 (lo a : Int), .string (mo a)] 39)).alloc (.cells #[.bool ny, .int .u64 (lo b : Int), .string (mo b)] 39)).alloc (.cells #[.int .u64 0, .string ⟨#[]⟩] 37)) = W at *
 obtain ⟨aD, aE, aF⟩ := b0.c3; obtain ⟨aG, aH, aI⟩ := b1.c3
 have aS := b0.lt
 have aT := b1.lt
 go_cut [5, 6] (fun v5 v6 wc => Jmw W a b v5 v6 wc)
 case first =>
  go_region
  all_goals
   go_wp2_with fail
   go_meet
   first
    | exact ⟨W.heap.size, W.heap.size + 1, rfl, rfl, by omega, by omega, by omega, (Blk.new W 37 #[.int .u64 (lo a : Int), .string (mo a)]).alloc _, Blk.new2 W _ 37 #[.int .u64 (lo b : Int), .string (mo b)], Jw (Jo W _ _) 1⟩
    | exact ⟨W.heap.size + 1, W.heap.size, rfl, rfl, by omega, by omega, by omega, Blk.new2 W _ 37 #[.int .u64 (lo a : Int), .string (mo a)], (Blk.new W 37 #[.int .u64 (lo b : Int), .string (mo b)]).alloc _, Jw (Jo W _ _) 1⟩
 case rest =>
  obtain ⟨g, h, rfl, rfl, aJ, aP, aQ, s9, bK, bN⟩ := hcut
  clear aD aE aF aG aH aI b0 b1 aS aT
  have aU : ¬ h = g := fun e => aJ e.symm
  have aV : ¬ g = h := aJ
  obtain ⟨j0, j6⟩ := s9.c2; obtain ⟨j7, j8⟩ := bK.c2
  go_wp2_with fail
  refine (aB.out _).mono ?_
  rintro e w1 ⟨rfl, bL⟩
  have bJ := Ja bN bL
  (try clear j0 j6 j9 bF bG bH); obtain ⟨s9, j0, j6, j9, bF, bG, bH⟩ := s9.zf2 bL; (try clear j7 j8 o0 o9 bI p9); obtain ⟨bK, j7, j8, o0, o9, bI, p9⟩ := bK.zf2 bL
  obtain ⟨cv, aK⟩ : ∃ cv, Qz a b = cv := ⟨_, rfl⟩
  rw [aK]
  have aR : cv < 0 ↔ a < b := by
   rw [<- aK]
   unfold Qz
   split
   ·simp; assumption
   split <;> simp <;> omega
  have HCL := lh aR
  clear aK aR aB bN bL
  go_upto_if 21 with fail
  go_cut [20] (fun _ wc => GB W g h X Y wc)
  case first =>
   by_cases bM : a < b
   ·have aL : X = b /\ Y = a := by have := HXY.out; rw [if_pos bM, if_pos bM] at this; exact this
    obtain ⟨rfl, rfl⟩ := aL
    have aW := HCL.out.2 bM
    clear HXY HCL bM
    go_wp2
    go_meet
    obtain ⟨s1, s2⟩ := Uc s9 bK aJ (.int .u64 (lo X : Int)) (.string (mo X)) (.int .u64 (lo Y : Int)) (.string (mo Y))
    exact ⟨s1, s2, (((bJ.setCell aP _).setCell aP _).setCell aQ _).setCell aQ _⟩
   have aL : X = a /\ Y = b := by have := HXY.out; rw [if_neg bM, if_neg bM] at this; exact this
   obtain ⟨rfl, rfl⟩ := aL
   have aW : ¬ cv < 0 := fun h => bM (HCL.out.1 h)
   clear HXY HCL bM
   go_wp2
   go_meet
   exact ⟨s9, bK, bJ⟩
  case rest =>
   clear j0 j6 j9 bF bG bH j7 j8 o0 o9 bI p9
   clear s9 bK bJ HCL HXY
   obtain ⟨s9, bK, bN⟩ := hcut
   have aM := lh (fun w => Qn Y w (by omega))
   unfold Jg at aM
   have b2 := b2.below bN b2.lt
   obtain ⟨j0, j6, j9, bF, bG, bH⟩ := s9.f2; obtain ⟨j7, j8, o0, o9, bI, p9⟩ := bK.f2
   have aX := Qv Y
   have n1 : ¬ g = w.heap.size + 1 + 1 := by have := hZ.out; omega
   have n2 : ¬ w.heap.size + 1 + 1 = g := by have := hZ.out; omega
   have n3 : ¬ h = w.heap.size + 1 + 1 := by have := hZ.out; omega
   have n4 : ¬ w.heap.size + 1 + 1 = h := by have := hZ.out; omega
   go_wp2_with fail
   refine (aM.out _).mono ?_
   rintro e w1 ⟨rfl, bL⟩
   have bJ := Ja bN bL
   (try clear j0 j6 j9 bF bG bH); obtain ⟨s9, j0, j6, j9, bF, bG, bH⟩ := s9.zf2 bL; (try clear j7 j8 o0 o9 bI p9); obtain ⟨bK, j7, j8, o0, o9, bI, p9⟩ := bK.zf2 bL
   have b2 := b2.below bL b2.lt
   clear aM bL bN
   have aA := HY0.out
   subst aA
   obtain rfl : X = GG := by rw [<- HGG.out, Nat.gcd_zero_right]
   have e0 : Je 0 = 0 := rfl
   rw [e0]
   obtain ⟨aY, aZ, bA, bB, aN, aO⟩ := b2.f2
   clear e0 aX
   go_wp2
   refine bodyPost_ret (v := .agg #[.int .u64 (lo X : Int), .string (mo X)]) (by simp [results, Tryz.results80, go_sem, aN, aO]) rfl ?_
   exact ⟨rfl, Xo (Ja hB bJ) (by omega) _ _⟩
