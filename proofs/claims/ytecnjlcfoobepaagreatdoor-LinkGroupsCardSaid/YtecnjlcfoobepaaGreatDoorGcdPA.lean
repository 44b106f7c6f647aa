import Derived.Test.YtecnjlcfoobepaaGreatDoorGcdV
import Derived.Test.YtecnjlcfoobepaaGreatDoorWholeM
import Derived.Test.YtecnjlcfoobepaaGreatDoorNatDiv
namespace Go.Proofs.YtecnjlcfoobepaaGreatDoor
set_option maxRecDepth 100000
set_option maxHeartbeats 1000000
open Go.RowKit
set_option linter.all false
theorem Vl {w : World} {g h : Nat} {t t' : TypeId} {a b c d : Value} (h1 : Blk w g t #[a, b]) (h2 : Blk w h t' #[c, d]) (aF : g ≠ h) (x y z u : Value) :
  Blk ((((w.setCell ⟨g, 0, none⟩ x).setCell ⟨g, 1, none⟩ y).setCell ⟨h, 0, none⟩ z).setCell ⟨h, 1, none⟩ u) g t #[x, y] /\ Blk ((((w.setCell ⟨g, 0, none⟩ x).setCell ⟨g, 1, none⟩ y).setCell ⟨h, 0, none⟩ z).setCell ⟨h, 1, none⟩ u) h t' #[z, u] := by
 have e1 := (((h1.set_ 0 x).set_ 1 y).far (p := ⟨h, 0, none⟩) aF z).far (p := ⟨h, 1, none⟩) aF u
 have e2 := (((h2.far (p := ⟨g, 0, none⟩) (Ne.symm aF) x).far (p := ⟨g, 1, none⟩) (Ne.symm aF) y).set_ 0 z).set_ 1 u
 exact ⟨by simpa using e1, by simpa using e2⟩
def GB (W : World) (g h X Y : Nat) (wc : World) : Prop :=
 Blk wc g 52 #[.int .u64 (lo X : Int), .string (mo X)] /\ Blk wc h 52 #[.int .u64 (lo Y : Int), .string (mo Y)] /\ Below W.heap.size W wc
def Jrp (W : World) (X Y : Nat) (v5 v6 : Value) (wc : World) : Prop :=
 ∃ g h, v5 = .pointer (some ⟨g, 0, none⟩) /\ v6 = .pointer (some ⟨h, 0, none⟩) /\ g ≠ h /\ W.heap.size <= g /\ W.heap.size <= h /\ Blk wc g 52 #[.int .u64 (lo X : Int), .string (mo X)] /\ Blk wc h 52 #[.int .u64 (lo Y : Int), .string (mo Y)] /\ Below W.heap.size W wc
theorem Jif (x y : Int) (X Y : Nat) (w : World) (hx : Je x.natAbs <= 549755813888) (hy : Je y.natAbs <= 549755813888) (hT : Tab w) (hX : X = if x.natAbs < y.natAbs then y.natAbs else x.natAbs) (hY : Y = if x.natAbs < y.natAbs then x.natAbs else y.natAbs) (aG : Y = 0) :
  Calls Tryz.prog 79 #[Qa x, Qa y] w (Ret (Jj (Nat.gcd X Y)) w) := by
 have HY0 := lh aG
 clear aG
 have bI : Je X <= 549755813888 := by rw [hX]; split <;> assumption
 have bJ : Je Y <= 549755813888 := by rw [hY]; split <;> assumption
 have aH := lh (fun w => Zr x.natAbs y.natAbs w (by omega) (by omega))
 obtain ⟨GG, aI⟩ : ∃ GG, Nat.gcd X Y = GG := ⟨_, rfl⟩
 rw [aI]
 have HGG := lh aI
 clear aI
 have HXY := lh (And.intro hX hY)
 clear hX hY
 unfold Qa
 generalize hnx : decide (x < 0) = nx
 generalize hny : decide (y < 0) = ny
 clear hnx hny
 generalize x.natAbs = a at *
 generalize y.natAbs = b at *
 unfold Jj at aH ⊢
 obtain ⟨b0, b1, b2, hB, hZ⟩ := bx3 w 54 #[.bool nx, .int .u64 (lo a : Int), .string (mo a)] 54 #[.bool ny, .int .u64 (lo b : Int), .string (mo b)] 52 #[.int .u64 0, .string ⟨#[]⟩]
 have bK := hT.next hB
 go_enter Tryz.func79, Tryz.ntmps79
 go_upto_region 1 with fail
 generalize (((w.alloc (.cells #[.bool nx, .int .u64 (lo a : Int), .string (mo a)] 54)).alloc (.cells #[.bool ny, .int .u64 (lo b : Int), .string (mo b)] 54)).alloc (.cells #[.int .u64 0, .string ⟨#[]⟩] 52)) = W at *
 obtain ⟨aJ, aK, aL⟩ := b0.c3; obtain ⟨aM, aN, aO⟩ := b1.c3
 have aY := b0.lt
 have aZ := b1.lt
 go_cut [5, 6] (fun v5 v6 wc => Jrp W a b v5 v6 wc)
 case first =>
  go_region
  all_goals
   go_wp2_with fail
   go_meet
   first
    | exact ⟨W.heap.size, W.heap.size + 1, rfl, rfl, by omega, by omega, by omega, (Blk.new W 52 #[.int .u64 (lo a : Int), .string (mo a)]).alloc _, Blk.new2 W _ 52 #[.int .u64 (lo b : Int), .string (mo b)], Jz (Jl W _ _) 1⟩
    | exact ⟨W.heap.size + 1, W.heap.size, rfl, rfl, by omega, by omega, by omega, Blk.new2 W _ 52 #[.int .u64 (lo a : Int), .string (mo a)], (Blk.new W 52 #[.int .u64 (lo b : Int), .string (mo b)]).alloc _, Jz (Jl W _ _) 1⟩
 case rest =>
  obtain ⟨g, h, rfl, rfl, aP, aV, aW, aA, aB, aE⟩ := hcut
  clear aJ aK aL aM aN aO b0 b1 aY aZ
  have bA : ¬ h = g := fun e => aP e.symm
  have bB : ¬ g = h := aP
  obtain ⟨j6, j7⟩ := aA.c2; obtain ⟨j8, j9⟩ := aB.c2
  go_wp2_with fail
  refine (aH.out _).mono ?_
  rintro e w1 ⟨rfl, aC⟩
  have y9 := Ja aE aC
  (try clear j6 j7 o0 o5 s9 t7); obtain ⟨aA, j6, j7, o0, o5, s9, t7⟩ := aA.zf2 aC; (try clear j8 j9 t8 x8 x9 y8); obtain ⟨aB, j8, j9, t8, x8, x9, y8⟩ := aB.zf2 aC
  obtain ⟨cv, aQ⟩ : ∃ cv, Xd a b = cv := ⟨_, rfl⟩
  rw [aQ]
  have aX : cv < 0 ↔ a < b := by
   rw [<- aQ]
   unfold Xd
   split
   ·simp; assumption
   split <;> simp <;> omega
  have HCL := lh aX
  clear aQ aX aH aE aC
  go_upto_if 21 with fail
  go_cut [20] (fun _ wc => GB W g h X Y wc)
  case first =>
   by_cases aD : a < b
   ·have aR : X = b /\ Y = a := by have := HXY.out; rw [if_pos aD, if_pos aD] at this; exact this
    obtain ⟨rfl, rfl⟩ := aR
    have bC := HCL.out.2 aD
    clear HXY HCL aD
    go_wp2
    go_meet
    obtain ⟨s1, s2⟩ := Vl aA aB aP (.int .u64 (lo X : Int)) (.string (mo X)) (.int .u64 (lo Y : Int)) (.string (mo Y))
    exact ⟨s1, s2, (((y9.setCell aV _).setCell aV _).setCell aW _).setCell aW _⟩
   have aR : X = a /\ Y = b := by have := HXY.out; rw [if_neg aD, if_neg aD] at this; exact this
   obtain ⟨rfl, rfl⟩ := aR
   have bC : ¬ cv < 0 := fun h => aD (HCL.out.1 h)
   clear HXY HCL aD
   go_wp2
   go_meet
   exact ⟨aA, aB, y9⟩
  case rest =>
   clear j6 j7 o0 o5 s9 t7 j8 j9 t8 x8 x9 y8
   clear aA aB y9 HCL HXY
   obtain ⟨aA, aB, aE⟩ := hcut
   have aS := lh (fun w => Qx Y w (by omega))
   unfold Jj at aS
   have b2 := b2.below aE b2.lt
   obtain ⟨j6, j7, o0, o5, s9, t7⟩ := aA.f2; obtain ⟨j8, j9, t8, x8, x9, y8⟩ := aB.f2
   have bD := Xe Y
   have n1 : ¬ g = w.heap.size + 1 + 1 := by have := hZ.out; omega
   have n2 : ¬ w.heap.size + 1 + 1 = g := by have := hZ.out; omega
   have n3 : ¬ h = w.heap.size + 1 + 1 := by have := hZ.out; omega
   have n4 : ¬ w.heap.size + 1 + 1 = h := by have := hZ.out; omega
   go_wp2_with fail
   refine (aS.out _).mono ?_
   rintro e w1 ⟨rfl, aC⟩
   have y9 := Ja aE aC
   (try clear j6 j7 o0 o5 s9 t7); obtain ⟨aA, j6, j7, o0, o5, s9, t7⟩ := aA.zf2 aC; (try clear j8 j9 t8 x8 x9 y8); obtain ⟨aB, j8, j9, t8, x8, x9, y8⟩ := aB.zf2 aC
   have b2 := b2.below aC b2.lt
   clear aS aC aE
   have aG := HY0.out
   subst aG
   obtain rfl : X = GG := by rw [<- HGG.out, Nat.gcd_zero_right]
   have e0 : Je 0 = 0 := rfl
   rw [e0]
   obtain ⟨bE, bF, bG, bH, aT, aU⟩ := b2.f2
   clear e0 bD
   go_wp2
   refine bodyPost_ret (v := .agg #[.int .u64 (lo X : Int), .string (mo X)]) (by simp [results, Tryz.results79, go_sem, aT, aU]) rfl ?_
   exact ⟨rfl, Xz (Ja hB y9) (by omega) _ _⟩
