import Derived.Test.YtecnjlcfoobepaaGreatDoorGcdV
import Derived.Test.YtecnjlcfoobepaaGreatDoorWholeM
import Derived.Test.YtecnjlcfoobepaaGreatDoorNatDiv
namespace Go.Proofs.YtecnjlcfoobepaaGreatDoor
set_option maxRecDepth 100000
set_option maxHeartbeats 1000000
open Go.RowKit
set_option linter.unusedSimpArgs false
set_option linter.unusedVariables false
theorem two_set {w : World} {g h : Nat} {t t' : TypeId} {a b c d : Value} (h1 : Blk w g t #[a, b]) (h2 : Blk w h t' #[c, d]) (hne : g ≠ h) (x y z u : Value) :
  Blk ((((w.setCell ⟨g, 0, none⟩ x).setCell ⟨g, 1, none⟩ y).setCell ⟨h, 0, none⟩ z).setCell ⟨h, 1, none⟩ u) g t #[x, y] /\ Blk ((((w.setCell ⟨g, 0, none⟩ x).setCell ⟨g, 1, none⟩ y).setCell ⟨h, 0, none⟩ z).setCell ⟨h, 1, none⟩ u) h t' #[z, u] := by
 have e1 := (((h1.set_ 0 x).set_ 1 y).far (p := ⟨h, 0, none⟩) hne z).far (p := ⟨h, 1, none⟩) hne u
 have e2 := (((h2.far (p := ⟨g, 0, none⟩) (Ne.symm hne) x).far (p := ⟨g, 1, none⟩) (Ne.symm hne) y).set_ 0 z).set_ 1 u
 exact ⟨by simpa using e1, by simpa using e2⟩
def GB (W : World) (g h X Y : Nat) (wc : World) : Prop :=
 Blk wc g 52 #[.int .u64 (lo X : Int), .string (mo X)] /\ Blk wc h 52 #[.int .u64 (lo Y : Int), .string (mo Y)] /\ Below W.heap.size W wc
def GRel (W : World) (X Y : Nat) (v5 v6 : Value) (wc : World) : Prop :=
 ∃ g h, v5 = .pointer (some ⟨g, 0, none⟩) /\ v6 = .pointer (some ⟨h, 0, none⟩) /\ g ≠ h /\ W.heap.size <= g /\ W.heap.size <= h /\ Blk wc g 52 #[.int .u64 (lo X : Int), .string (mo X)] /\ Blk wc h 52 #[.int .u64 (lo Y : Int), .string (mo Y)] /\ Below W.heap.size W wc
theorem whole_gcd_A (x y : Int) (X Y : Nat) (w : World) (hx : blen x.natAbs <= 549755813888) (hy : blen y.natAbs <= 549755813888) (hT : Tab w) (hX : X = if x.natAbs < y.natAbs then y.natAbs else x.natAbs) (hY : Y = if x.natAbs < y.natAbs then x.natAbs else y.natAbs) (hY0 : Y = 0) :
  Calls Tryz.prog 79 #[intV x, intV y] w (Ret (natV (Nat.gcd X Y)) w) := by
 have HY0 := lh hY0
 clear hY0
 have hXb : blen X <= 549755813888 := by rw [hX]; split <;> assumption
 have hYb : blen Y <= 549755813888 := by rw [hY]; split <;> assumption
 have hcm := lh (fun w => nat_cmp x.natAbs y.natAbs w (by omega) (by omega))
 obtain ⟨GG, hGG⟩ : ∃ GG, Nat.gcd X Y = GG := ⟨_, rfl⟩
 rw [hGG]
 have HGG := lh hGG
 clear hGG
 have HXY := lh (And.intro hX hY)
 clear hX hY
 unfold intV
 generalize hnx : decide (x < 0) = nx
 generalize hny : decide (y < 0) = ny
 clear hnx hny
 generalize x.natAbs = a at *
 generalize y.natAbs = b at *
 unfold natV at hcm ⊢
 have b0 := ((Blk.new w  54 #[.bool nx, .int .u64 (lo a : Int), .string (mo a)]).alloc (.cells #[.bool ny, .int .u64 (lo b : Int), .string (mo b)] 54)).alloc (.cells #[.int .u64 0, .string ⟨#[]⟩] 52); have b1 := (Blk.new2 w (.cells #[.bool nx, .int .u64 (lo a : Int), .string (mo a)] 54) 54 #[.bool ny, .int .u64 (lo b : Int), .string (mo b)]).alloc (.cells #[.int .u64 0, .string ⟨#[]⟩] 52); have b2 := Blk.new3 w (.cells #[.bool nx, .int .u64 (lo a : Int), .string (mo a)] 54) (.cells #[.bool ny, .int .u64 (lo b : Int), .string (mo b)] 54) 52 #[.int .u64 0, .string ⟨#[]⟩]; have hB := balloc3 w (.cells #[.bool nx, .int .u64 (lo a : Int), .string (mo a)] 54) (.cells #[.bool ny, .int .u64 (lo b : Int), .string (mo b)] 54) (.cells #[.int .u64 0, .string ⟨#[]⟩] 52); have hZ := lh (show (((w.alloc (.cells #[.bool nx, .int .u64 (lo a : Int), .string (mo a)] 54)).alloc (.cells #[.bool ny, .int .u64 (lo b : Int), .string (mo b)] 54)).alloc (.cells #[.int .u64 0, .string ⟨#[]⟩] 52)).heap.size = w.heap.size + 1 + 1 + 1 from by simp)
 have hTW := hT.next hB
 go_enter Tryz.func79, Tryz.ntmps79
 go_upto_region 1 with fail
 generalize (((w.alloc (.cells #[.bool nx, .int .u64 (lo a : Int), .string (mo a)] 54)).alloc (.cells #[.bool ny, .int .u64 (lo b : Int), .string (mo b)] 54)).alloc (.cells #[.int .u64 0, .string ⟨#[]⟩] 52)) = W at *
 obtain ⟨b0q0, b0q1, b0q2⟩ := b0.c3; obtain ⟨b1q0, b1q1, b1q2⟩ := b1.c3
 have hz0 := b0.lt
 have hz1 := b1.lt
 go_cut [5, 6] (fun v5 v6 wc => GRel W a b v5 v6 wc)
 case first =>
  go_region
  all_goals
   go_wp2_with fail
   go_meet
   first
    | exact ⟨W.heap.size, W.heap.size + 1, rfl, rfl, by omega, by omega, by omega, (Blk.new W 52 #[.int .u64 (lo a : Int), .string (mo a)]).alloc _, Blk.new2 W _ 52 #[.int .u64 (lo b : Int), .string (mo b)], bdrewN (balloc2 W _ _) 1⟩
    | exact ⟨W.heap.size + 1, W.heap.size, rfl, rfl, by omega, by omega, by omega, Blk.new2 W _ 52 #[.int .u64 (lo a : Int), .string (mo a)], (Blk.new W 52 #[.int .u64 (lo b : Int), .string (mo b)]).alloc _, bdrewN (balloc2 W _ _) 1⟩
 case rest =>
  obtain ⟨g, h, rfl, rfl, hgh, hWg, hWh, hb5, hb6, hbc⟩ := hcut
  clear b0q0 b0q1 b0q2 b1q0 b1q1 b1q2 b0 b1 hz0 hz1
  have hgh2 : ¬ h = g := fun e => hgh e.symm
  have hgh1 : ¬ g = h := hgh
  obtain ⟨hb5q0, hb5q1⟩ := hb5.c2; obtain ⟨hb6q0, hb6q1⟩ := hb6.c2
  go_wp2_with fail
  refine (hcm.out _).mono ?_
  rintro e w1 ⟨rfl, hb1⟩
  have hbc1 := bthen hbc hb1
  (try clear hb5q0 hb5q1 hb5f0 hb5f1 hb5s0 hb5s1); have hb5 := hb5.below hb1 hb5.lt; obtain ⟨hb5q0, hb5q1, hb5f0, hb5f1, hb5s0, hb5s1⟩ := hb5.f2; (try clear hb6q0 hb6q1 hb6f0 hb6f1 hb6s0 hb6s1); have hb6 := hb6.below hb1 hb6.lt; obtain ⟨hb6q0, hb6q1, hb6f0, hb6f1, hb6s0, hb6s1⟩ := hb6.f2
  obtain ⟨cv, hcv⟩ : ∃ cv, cmpI a b = cv := ⟨_, rfl⟩
  rw [hcv]
  have hcl : cv < 0 ↔ a < b := by
   rw [<- hcv]
   unfold cmpI
   split
   ·simp; assumption
   split <;> simp <;> omega
  have HCL := lh hcl
  clear hcv hcl hcm hbc hb1
  go_upto_if 21 with fail
  go_cut [20] (fun _ wc => GB W g h X Y wc)
  case first =>
   by_cases hab : a < b
   ·have hXX : X = b /\ Y = a := by have := HXY.out; rw [if_pos hab, if_pos hab] at this; exact this
    obtain ⟨rfl, rfl⟩ := hXX
    have hcn := HCL.out.2 hab
    clear HXY HCL hab
    go_wp2
    go_meet
    obtain ⟨s1, s2⟩ := two_set hb5 hb6 hgh (.int .u64 (lo X : Int)) (.string (mo X)) (.int .u64 (lo Y : Int)) (.string (mo Y))
    exact ⟨s1, s2, (((hbc1.setCell hWg _).setCell hWg _).setCell hWh _).setCell hWh _⟩
   have hXX : X = a /\ Y = b := by have := HXY.out; rw [if_neg hab, if_neg hab] at this; exact this
   obtain ⟨rfl, rfl⟩ := hXX
   have hcn : ¬ cv < 0 := fun h => hab (HCL.out.1 h)
   clear HXY HCL hab
   go_wp2
   go_meet
   exact ⟨hb5, hb6, hbc1⟩
  case rest =>
   clear hb5q0 hb5q1 hb5f0 hb5f1 hb5s0 hb5s1 hb6q0 hb6q1 hb6f0 hb6f1 hb6s0 hb6s1
   clear hb5 hb6 hbc1 HCL HXY
   obtain ⟨hb5, hb6, hbc⟩ := hcut
   have hbs := lh (fun w => nat_bits Y w (by omega))
   unfold natV at hbs
   have b2 := b2.below hbc b2.lt
   obtain ⟨hb5q0, hb5q1, hb5f0, hb5f1, hb5s0, hb5s1⟩ := hb5.f2; obtain ⟨hb6q0, hb6q1, hb6f0, hb6f1, hb6s0, hb6s1⟩ := hb6.f2
   have hpY := blen_pos Y
   have n1 : ¬ g = w.heap.size + 1 + 1 := by have := hZ.out; omega
   have n2 : ¬ w.heap.size + 1 + 1 = g := by have := hZ.out; omega
   have n3 : ¬ h = w.heap.size + 1 + 1 := by have := hZ.out; omega
   have n4 : ¬ w.heap.size + 1 + 1 = h := by have := hZ.out; omega
   go_wp2_with fail
   refine (hbs.out _).mono ?_
   rintro e w1 ⟨rfl, hb1⟩
   have hbc1 := bthen hbc hb1
   (try clear hb5q0 hb5q1 hb5f0 hb5f1 hb5s0 hb5s1); have hb5 := hb5.below hb1 hb5.lt; obtain ⟨hb5q0, hb5q1, hb5f0, hb5f1, hb5s0, hb5s1⟩ := hb5.f2; (try clear hb6q0 hb6q1 hb6f0 hb6f1 hb6s0 hb6s1); have hb6 := hb6.below hb1 hb6.lt; obtain ⟨hb6q0, hb6q1, hb6f0, hb6f1, hb6s0, hb6s1⟩ := hb6.f2
   have b2 := b2.below hb1 b2.lt
   clear hbs hb1 hbc
   have hY0 := HY0.out
   subst hY0
   obtain rfl : X = GG := by rw [<- HGG.out, Nat.gcd_zero_right]
   have e0 : blen 0 = 0 := rfl
   rw [e0]
   obtain ⟨b2q0, b2q1, b2f0, b2f1, b2s0, b2s1⟩ := b2.f2
   clear e0 hpY
   go_wp2
   refine bodyPost_ret (v := .agg #[.int .u64 (lo X : Int), .string (mo X)]) (by simp [results, Tryz.results79, go_sem, b2s0, b2s1]) rfl ?_
   exact ⟨rfl, bset2 (bthen hB hbc1) (by omega) _ _⟩
end Go.Proofs.YtecnjlcfoobepaaGreatDoor
