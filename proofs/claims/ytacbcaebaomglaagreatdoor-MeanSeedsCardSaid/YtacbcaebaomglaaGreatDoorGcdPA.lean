import Derived.Test.YtacbcaebaomglaaGreatDoorGcdV
import Derived.Test.YtacbcaebaomglaaGreatDoorWholeM
import Derived.Test.YtacbcaebaomglaaGreatDoorNatDiv
namespace Go.Proofs.YtacbcaebaomglaaGreatDoor
set_option maxRecDepth 100000
set_option maxHeartbeats 1000000
open Go.RowKit
set_option linter.all false
theorem Ve {w : World} {g h : Nat} {t t' : TypeId} {a b c d : Value} (h1 : Blk w g t #[a, b]) (h2 : Blk w h t' #[c, d]) (t8 : g ≠ h) (x y z u : Value) :
  Blk ((((w.setCell ⟨g, 0, none⟩ x).setCell ⟨g, 1, none⟩ y).setCell ⟨h, 0, none⟩ z).setCell ⟨h, 1, none⟩ u) g t #[x, y] /\ Blk ((((w.setCell ⟨g, 0, none⟩ x).setCell ⟨g, 1, none⟩ y).setCell ⟨h, 0, none⟩ z).setCell ⟨h, 1, none⟩ u) h t' #[z, u] := by
 have e1 := (((h1.set_ 0 x).set_ 1 y).far (p := ⟨h, 0, none⟩) t8 z).far (p := ⟨h, 1, none⟩) t8 u
 have e2 := (((h2.far (p := ⟨g, 0, none⟩) (Ne.symm t8) x).far (p := ⟨g, 1, none⟩) (Ne.symm t8) y).set_ 0 z).set_ 1 u
 exact ⟨by simpa using e1, by simpa using e2⟩
def GB (W : World) (g h X Y : Nat) (wc : World) : Prop :=
 Blk wc g 61 #[.int .u64 (lo X : Int), .string (mo X)] /\ Blk wc h 61 #[.int .u64 (lo Y : Int), .string (mo Y)] /\ Below W.heap.size W wc
def Jnt (W : World) (X Y : Nat) (v5 v6 : Value) (wc : World) : Prop :=
 ∃ g h, v5 = .pointer (some ⟨g, 0, none⟩) /\ v6 = .pointer (some ⟨h, 0, none⟩) /\ g ≠ h /\ W.heap.size <= g /\ W.heap.size <= h /\ Blk wc g 61 #[.int .u64 (lo X : Int), .string (mo X)] /\ Blk wc h 61 #[.int .u64 (lo Y : Int), .string (mo Y)] /\ Below W.heap.size W wc
theorem Jhc (x y : Int) (X Y : Nat) (w : World) (hx : Je x.natAbs <= 549755813888) (hy : Je y.natAbs <= 549755813888) (hT : Tab w) (hX : X = if x.natAbs < y.natAbs then y.natAbs else x.natAbs) (hY : Y = if x.natAbs < y.natAbs then x.natAbs else y.natAbs) (u4 : Y = 0) :
  Calls Tryz.prog 74 #[Jx x, Jx y] w (Ret (Jh (Nat.gcd X Y)) w) := by
 have HY0 := lh u4
 clear u4
 have aW : Je X <= 549755813888 := by rw [hX]; split <;> assumption
 have aX : Je Y <= 549755813888 := by rw [hY]; split <;> assumption
 have x7 := lh (fun w => Zt x.natAbs y.natAbs w (by omega) (by omega))
 obtain ⟨GG, x8⟩ : ∃ GG, Nat.gcd X Y = GG := ⟨_, rfl⟩
 rw [x8]
 have HGG := lh x8
 clear x8
 have HXY := lh (And.intro hX hY)
 clear hX hY
 unfold Jx
 generalize hnx : decide (x < 0) = nx
 generalize hny : decide (y < 0) = ny
 clear hnx hny
 generalize x.natAbs = a at *
 generalize y.natAbs = b at *
 unfold Jh at x7 ⊢
 obtain ⟨b0, b1, b2, hB, hZ⟩ := bx3 w 63 #[.bool nx, .int .u64 (lo a : Int), .string (mo a)] 63 #[.bool ny, .int .u64 (lo b : Int), .string (mo b)] 61 #[.int .u64 0, .string ⟨#[]⟩]
 have aY := hT.next hB
 go_enter Tryz.func74, Tryz.ntmps74
 go_upto_region 1 with fail
 generalize (((w.alloc (.cells #[.bool nx, .int .u64 (lo a : Int), .string (mo a)] 63)).alloc (.cells #[.bool ny, .int .u64 (lo b : Int), .string (mo b)] 63)).alloc (.cells #[.int .u64 0, .string ⟨#[]⟩] 61)) = W at *
 obtain ⟨x9, y8, y9⟩ := b0.c3; obtain ⟨aA, aB, aC⟩ := b1.c3
 have aM := b0.lt
 have aN := b1.lt
 go_cut [5, 6] (fun v5 v6 wc => Jnt W a b v5 v6 wc)
 case first =>
  go_region
  all_goals
   go_wp2_with fail
   go_meet
   first
    | exact ⟨W.heap.size, W.heap.size + 1, rfl, rfl, by omega, by omega, by omega, (Blk.new W 61 #[.int .u64 (lo a : Int), .string (mo a)]).alloc _, Blk.new2 W _ 61 #[.int .u64 (lo b : Int), .string (mo b)], Jy (Jj W _ _) 1⟩
    | exact ⟨W.heap.size + 1, W.heap.size, rfl, rfl, by omega, by omega, by omega, Blk.new2 W _ 61 #[.int .u64 (lo a : Int), .string (mo a)], (Blk.new W 61 #[.int .u64 (lo b : Int), .string (mo b)]).alloc _, Jy (Jj W _ _) 1⟩
 case rest =>
  obtain ⟨g, h, rfl, rfl, aD, aJ, aK, p8, p9, t7⟩ := hcut
  clear x9 y8 y9 aA aB aC b0 b1 aM aN
  have aO : ¬ h = g := fun e => aD e.symm
  have aP : ¬ g = h := aD
  obtain ⟨e8, e9⟩ := p8.c2; obtain ⟨j0, j6⟩ := p9.c2
  go_wp2_with fail
  refine (x7.out _).mono ?_
  rintro e w1 ⟨rfl, q8⟩
  have p7 := Ja t7 q8
  (try clear e8 e9 j7 j8 j9 o0); obtain ⟨p8, e8, e9, j7, j8, j9, o0⟩ := p8.zf2 q8; (try clear j0 j6 o6 o7 o8 o9); obtain ⟨p9, j0, j6, o6, o7, o8, o9⟩ := p9.zf2 q8
  obtain ⟨cv, aE⟩ : ∃ cv, Qx a b = cv := ⟨_, rfl⟩
  rw [aE]
  have aL : cv < 0 ↔ a < b := by
   rw [<- aE]
   unfold Qx
   split
   ·simp; assumption
   split <;> simp <;> omega
  have HCL := lh aL
  clear aE aL x7 t7 q8
  go_upto_if 21 with fail
  go_cut [20] (fun _ wc => GB W g h X Y wc)
  case first =>
   by_cases s9 : a < b
   ·have aF : X = b /\ Y = a := by have := HXY.out; rw [if_pos s9, if_pos s9] at this; exact this
    obtain ⟨rfl, rfl⟩ := aF
    have aQ := HCL.out.2 s9
    clear HXY HCL s9
    go_wp2
    go_meet
    obtain ⟨s1, s2⟩ := Ve p8 p9 aD (.int .u64 (lo X : Int)) (.string (mo X)) (.int .u64 (lo Y : Int)) (.string (mo Y))
    exact ⟨s1, s2, (((p7.setCell aJ _).setCell aJ _).setCell aK _).setCell aK _⟩
   have aF : X = a /\ Y = b := by have := HXY.out; rw [if_neg s9, if_neg s9] at this; exact this
   obtain ⟨rfl, rfl⟩ := aF
   have aQ : ¬ cv < 0 := fun h => s9 (HCL.out.1 h)
   clear HXY HCL s9
   go_wp2
   go_meet
   exact ⟨p8, p9, p7⟩
  case rest =>
   clear e8 e9 j7 j8 j9 o0 j0 j6 o6 o7 o8 o9
   clear p8 p9 p7 HCL HXY
   obtain ⟨p8, p9, t7⟩ := hcut
   have aG := lh (fun w => Qr Y w (by omega))
   unfold Jh at aG
   have b2 := b2.below t7 b2.lt
   obtain ⟨e8, e9, j7, j8, j9, o0⟩ := p8.f2; obtain ⟨j0, j6, o6, o7, o8, o9⟩ := p9.f2
   have aR := Qz Y
   have n1 : ¬ g = w.heap.size + 1 + 1 := by have := hZ.out; omega
   have n2 : ¬ w.heap.size + 1 + 1 = g := by have := hZ.out; omega
   have n3 : ¬ h = w.heap.size + 1 + 1 := by have := hZ.out; omega
   have n4 : ¬ w.heap.size + 1 + 1 = h := by have := hZ.out; omega
   go_wp2_with fail
   refine (aG.out _).mono ?_
   rintro e w1 ⟨rfl, q8⟩
   have p7 := Ja t7 q8
   (try clear e8 e9 j7 j8 j9 o0); obtain ⟨p8, e8, e9, j7, j8, j9, o0⟩ := p8.zf2 q8; (try clear j0 j6 o6 o7 o8 o9); obtain ⟨p9, j0, j6, o6, o7, o8, o9⟩ := p9.zf2 q8
   have b2 := b2.below q8 b2.lt
   clear aG q8 t7
   have u4 := HY0.out
   subst u4
   obtain rfl : X = GG := by rw [<- HGG.out, Nat.gcd_zero_right]
   have e0 : Je 0 = 0 := rfl
   rw [e0]
   obtain ⟨aS, aT, aU, aV, aH, aI⟩ := b2.f2
   clear e0 aR
   go_wp2
   refine bodyPost_ret (v := .agg #[.int .u64 (lo X : Int), .string (mo X)]) (by simp [results, Tryz.results74, go_sem, aH, aI]) rfl ?_
   exact ⟨rfl, Za (Ja hB p7) (by omega) _ _⟩
