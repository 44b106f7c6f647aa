import Derived.Test.YtacbcaebaomglaaGreatDoorGcdV
import Derived.Test.YtacbcaebaomglaaGreatDoorWholeM
import Derived.Test.YtacbcaebaomglaaGreatDoorNatDiv
namespace Go.Proofs.YtacbcaebaomglaaGreatDoor
set_option maxRecDepth 100000
set_option maxHeartbeats 1000000
open Go.RowKit
set_option linter.all false
theorem Ku {w : World} {g h : Nat} {t t' : TypeId} {a b c d : Value} (h1 : Blk w g t #[a, b]) (h2 : Blk w h t' #[c, d]) (q8 : g ≠ h) (x y z u : Value) :
  Blk ((((w.setCell ⟨g, 0, none⟩ x).setCell ⟨g, 1, none⟩ y).setCell ⟨h, 0, none⟩ z).setCell ⟨h, 1, none⟩ u) g t #[x, y] /\ Blk ((((w.setCell ⟨g, 0, none⟩ x).setCell ⟨g, 1, none⟩ y).setCell ⟨h, 0, none⟩ z).setCell ⟨h, 1, none⟩ u) h t' #[z, u] := by
 have e1 := (((h1.set_ 0 x).set_ 1 y).far (p := ⟨h, 0, none⟩) q8 z).far (p := ⟨h, 1, none⟩) q8 u
 have e2 := (((h2.far (p := ⟨g, 0, none⟩) (Ne.symm q8) x).far (p := ⟨g, 1, none⟩) (Ne.symm q8) y).set_ 0 z).set_ 1 u
 exact ⟨by simpa using e1, by simpa using e2⟩
def GB (W : World) (g h X Y : Nat) (wc : World) : Prop :=
 Blk wc g 61 #[.int .u64 (lo X : Int), .string (mo X)] /\ Blk wc h 61 #[.int .u64 (lo Y : Int), .string (mo Y)] /\ Below W.heap.size W wc
def Jkt (W : World) (X Y : Nat) (v5 v6 : Value) (wc : World) : Prop :=
 ∃ g h, v5 = .pointer (some ⟨g, 0, none⟩) /\ v6 = .pointer (some ⟨h, 0, none⟩) /\ g ≠ h /\ W.heap.size <= g /\ W.heap.size <= h /\ Blk wc g 61 #[.int .u64 (lo X : Int), .string (mo X)] /\ Blk wc h 61 #[.int .u64 (lo Y : Int), .string (mo Y)] /\ Below W.heap.size W wc
theorem Jew (x y : Int) (X Y : Nat) (w : World) (hx : Je x.natAbs <= 549755813888) (hy : Je y.natAbs <= 549755813888) (hT : Tab w) (hX : X = if x.natAbs < y.natAbs then y.natAbs else x.natAbs) (hY : Y = if x.natAbs < y.natAbs then x.natAbs else y.natAbs) (q9 : Y = 0) :
  Calls Tryz.prog 74 #[Js x, Js y] w (Ret (Jh (Nat.gcd X Y)) w) := by
 have HY0 := lh q9
 clear q9
 have aR : Je X <= 549755813888 := by rw [hX]; split <;> assumption
 have aS : Je Y <= 549755813888 := by rw [hY]; split <;> assumption
 have s9 := lh (fun w => Xv x.natAbs y.natAbs w (by omega) (by omega))
 obtain ⟨GG, t7⟩ : ∃ GG, Nat.gcd X Y = GG := ⟨_, rfl⟩
 rw [t7]
 have HGG := lh t7
 clear t7
 have HXY := lh (And.intro hX hY)
 clear hX hY
 unfold Js
 generalize hnx : decide (x < 0) = nx
 generalize hny : decide (y < 0) = ny
 clear hnx hny
 generalize x.natAbs = a at *
 generalize y.natAbs = b at *
 unfold Jh at s9 ⊢
 obtain ⟨b0, b1, b2, hB, hZ⟩ := bx3 w 63 #[.bool nx, .int .u64 (lo a : Int), .string (mo a)] 63 #[.bool ny, .int .u64 (lo b : Int), .string (mo b)] 61 #[.int .u64 0, .string ⟨#[]⟩]
 have aT := hT.next hB
 go_enter Tryz.func74, Tryz.ntmps74
 go_upto_region 1 with fail
 generalize (((w.alloc (.cells #[.bool nx, .int .u64 (lo a : Int), .string (mo a)] 63)).alloc (.cells #[.bool ny, .int .u64 (lo b : Int), .string (mo b)] 63)).alloc (.cells #[.int .u64 0, .string ⟨#[]⟩] 61)) = W at *
 obtain ⟨t8, u4, u5⟩ := b0.c3; obtain ⟨x7, x8, x9⟩ := b1.c3
 have aH := b0.lt
 have aI := b1.lt
 go_cut [5, 6] (fun v5 v6 wc => Jkt W a b v5 v6 wc)
 case first =>
  go_region
  all_goals
   go_wp2_with fail
   go_meet
   first
    | exact ⟨W.heap.size, W.heap.size + 1, rfl, rfl, by omega, by omega, by omega, (Blk.new W 61 #[.int .u64 (lo a : Int), .string (mo a)]).alloc _, Blk.new2 W _ 61 #[.int .u64 (lo b : Int), .string (mo b)], Jx (Ji W _ _) 1⟩
    | exact ⟨W.heap.size + 1, W.heap.size, rfl, rfl, by omega, by omega, by omega, Blk.new2 W _ 61 #[.int .u64 (lo a : Int), .string (mo a)], (Blk.new W 61 #[.int .u64 (lo b : Int), .string (mo b)]).alloc _, Jx (Ji W _ _) 1⟩
 case rest =>
  obtain ⟨g, h, rfl, rfl, y8, aE, aF, o9, p0, p9⟩ := hcut
  clear t8 u4 u5 x7 x8 x9 b0 b1 aH aI
  have aJ : ¬ h = g := fun e => y8 e.symm
  have aK : ¬ g = h := y8
  obtain ⟨e8, e9⟩ := o9.c2; obtain ⟨j0, j6⟩ := p0.c2
  go_wp2_with fail
  refine (s9.out _).mono ?_
  rintro e w1 ⟨rfl, p7⟩
  have o8 := Ja p9 p7
  (try clear e8 e9 j7 j8 j9 l5); obtain ⟨o9, e8, e9, j7, j8, j9, l5⟩ := o9.zf2 p7; (try clear j0 j6 l7 o0 o6 o7); obtain ⟨p0, j0, j6, l7, o0, o6, o7⟩ := p0.zf2 p7
  obtain ⟨cv, y9⟩ : ∃ cv, Qw a b = cv := ⟨_, rfl⟩
  rw [y9]
  have aG : cv < 0 ↔ a < b := by
   rw [<- y9]
   unfold Qw
   split
   ·simp; assumption
   split <;> simp <;> omega
  have HCL := lh aG
  clear y9 aG s9 p9 p7
  go_upto_if 21 with fail
  go_cut [20] (fun _ wc => GB W g h X Y wc)
  case first =>
   by_cases p8 : a < b
   ·have aA : X = b /\ Y = a := by have := HXY.out; rw [if_pos p8, if_pos p8] at this; exact this
    obtain ⟨rfl, rfl⟩ := aA
    have aL := HCL.out.2 p8
    clear HXY HCL p8
    go_wp2
    go_meet
    obtain ⟨s1, s2⟩ := Ku o9 p0 y8 (.int .u64 (lo X : Int)) (.string (mo X)) (.int .u64 (lo Y : Int)) (.string (mo Y))
    exact ⟨s1, s2, (((o8.setCell aE _).setCell aE _).setCell aF _).setCell aF _⟩
   have aA : X = a /\ Y = b := by have := HXY.out; rw [if_neg p8, if_neg p8] at this; exact this
   obtain ⟨rfl, rfl⟩ := aA
   have aL : ¬ cv < 0 := fun h => p8 (HCL.out.1 h)
   clear HXY HCL p8
   go_wp2
   go_meet
   exact ⟨o9, p0, o8⟩
  case rest =>
   clear e8 e9 j7 j8 j9 l5 j0 j6 l7 o0 o6 o7
   clear o9 p0 o8 HCL HXY
   obtain ⟨o9, p0, p9⟩ := hcut
   have aB := lh (fun w => Qk Y w (by omega))
   unfold Jh at aB
   have b2 := b2.below p9 b2.lt
   obtain ⟨e8, e9, j7, j8, j9, l5⟩ := o9.f2; obtain ⟨j0, j6, l7, o0, o6, o7⟩ := p0.f2
   have aM := Qq Y
   have n1 : ¬ g = w.heap.size + 1 + 1 := by have := hZ.out; omega
   have n2 : ¬ w.heap.size + 1 + 1 = g := by have := hZ.out; omega
   have n3 : ¬ h = w.heap.size + 1 + 1 := by have := hZ.out; omega
   have n4 : ¬ w.heap.size + 1 + 1 = h := by have := hZ.out; omega
   go_wp2_with fail
   refine (aB.out _).mono ?_
   rintro e w1 ⟨rfl, p7⟩
   have o8 := Ja p9 p7
   (try clear e8 e9 j7 j8 j9 l5); obtain ⟨o9, e8, e9, j7, j8, j9, l5⟩ := o9.zf2 p7; (try clear j0 j6 l7 o0 o6 o7); obtain ⟨p0, j0, j6, l7, o0, o6, o7⟩ := p0.zf2 p7
   have b2 := b2.below p7 b2.lt
   clear aB p7 p9
   have q9 := HY0.out
   subst q9
   obtain rfl : X = GG := by rw [<- HGG.out, Nat.gcd_zero_right]
   have e0 : Je 0 = 0 := rfl
   rw [e0]
   obtain ⟨aN, aO, aP, aQ, aC, aD⟩ := b2.f2
   clear e0 aM
   go_wp2
   refine bodyPost_ret (v := .agg #[.int .u64 (lo X : Int), .string (mo X)]) (by simp [results, Tryz.results74, go_sem, aC, aD]) rfl ?_
   exact ⟨rfl, Xg (Ja hB o8) (by omega) _ _⟩
