import Derived.Test.YtecnjlcfoobepaaGreatDoorGcdPA
namespace Go.Proofs.YtecnjlcfoobepaaGreatDoor
set_option maxRecDepth 100000
set_option maxHeartbeats 1000000
open Go.RowKit
set_option linter.unusedSimpArgs false
set_option linter.unusedVariables false
theorem whole_gcd_B (x y : Int) (X Y : Nat) (w : World) (hx : blen x.natAbs <= 549755813888) (hy : blen y.natAbs <= 549755813888) (hT : Tab w) (hX : X = if x.natAbs < y.natAbs then y.natAbs else x.natAbs) (hY : Y = if x.natAbs < y.natAbs then x.natAbs else y.natAbs) (hY0 : Y ≠ 0) (hR0 : X % Y = 0) :
  Calls Tryz.prog 79 #[intV x, intV y] w (Ret (natV (Nat.gcd X Y)) w) := by
 have HY0 := lh hY0
 have HR0 := lh hR0
 clear hY0 hR0
 have hXb : blen X <= 549755813888 := by rw [hX]; split <;> assumption
 have hYb : blen Y <= 549755813888 := by rw [hY]; split <;> assumption
 have hcm := lh (fun w => nat_cmp x.natAbs y.natAbs w (by omega) (by omega))
 obtain ⟨GG, hGG⟩ : ∃ GG, Nat.gcd X Y = GG := ⟨_, rfl⟩
 rw [hGG]
 have HGG := lh hGG
 clear hGG
 have HXY := lh (And.intro hX hY)
 clear hX hY
 unfold intV
 generalize hnx : decide (x < 0) = nx
 generalize hny : decide (y < 0) = ny
 clear hnx hny
 generalize x.natAbs = a at *
 generalize y.natAbs = b at *
 unfold natV at hcm ⊢
 have b0 := ((Blk.new w  54 #[.bool nx, .int .u64 (lo a : Int), .string (mo a)]).alloc (.cells #[.bool ny, .int .u64 (lo b : Int), .string (mo b)] 54)).alloc (.cells #[.int .u64 0, .string ⟨#[]⟩] 52); have b1 := (Blk.new2 w (.cells #[.bool nx, .int .u64 (lo a : Int), .string (mo a)] 54) 54 #[.bool ny, .int .u64 (lo b : Int), .string (mo b)]).alloc (.cells #[.int .u64 0, .string ⟨#[]⟩] 52); have b2 := Blk.new3 w (.cells #[.bool nx, .int .u64 (lo a : Int), .string (mo a)] 54) (.cells #[.bool ny, .int .u64 (lo b : Int), .string (mo b)] 54) 52 #[.int .u64 0, .string ⟨#[]⟩]; have hB := balloc3 w (.cells #[.bool nx, .int .u64 (lo a : Int), .string (mo a)] 54) (.cells #[.bool ny, .int .u64 (lo b : Int), .string (mo b)] 54) (.cells #[.int .u64 0, .string ⟨#[]⟩] 52); have hZ := lh (show (((w.alloc (.cells #[.bool nx, .int .u64 (lo a : Int), .string (mo a)] 54)).alloc (.cells #[.bool ny, .int .u64 (lo b : Int), .string (mo b)] 54)).alloc (.cells #[.int .u64 0, .string ⟨#[]⟩] 52)).heap.size = w.heap.size + 1 + 1 + 1 from by simp)
 have hTW := hT.next hB
 go_enter Tryz.func79, Tryz.ntmps79
 go_upto_region 1 with fail
 generalize (((w.alloc (.cells #[.bool nx, .int .u64 (lo a : Int), .string (mo a)] 54)).alloc (.cells #[.bool ny, .int .u64 (lo b : Int), .string (mo b)] 54)).alloc (.cells #[.int .u64 0, .string ⟨#[]⟩] 52)) = W at *
 obtain ⟨b0q0, b0q1, b0q2⟩ := b0.c3; obtain ⟨b1q0, b1q1, b1q2⟩ := b1.c3
 have hz0 := b0.lt
 have hz1 := b1.lt
 go_cut [5, 6] (fun v5 v6 wc => GRel W a b v5 v6 wc)
 case first =>
  go_region
  all_goals
   go_wp2_with fail
   go_meet
   first
    | exact ⟨W.heap.size, W.heap.size + 1, rfl, rfl, by omega, by omega, by omega, (Blk.new W 52 #[.int .u64 (lo a : Int), .string (mo a)]).alloc _, Blk.new2 W _ 52 #[.int .u64 (lo b : Int), .string (mo b)], bdrewN (balloc2 W _ _) 1⟩
    | exact ⟨W.heap.size + 1, W.heap.size, rfl, rfl, by omega, by omega, by omega, Blk.new2 W _ 52 #[.int .u64 (lo a : Int), .string (mo a)], (Blk.new W 52 #[.int .u64 (lo b : Int), .string (mo b)]).alloc _, bdrewN (balloc2 W _ _) 1⟩
 case rest =>
  obtain ⟨g, h, rfl, rfl, hgh, hWg, hWh, hb5, hb6, hbc⟩ := hcut
  clear b0q0 b0q1 b0q2 b1q0 b1q1 b1q2 b0 b1 hz0 hz1
  have hgh2 : ¬ h = g := fun e => hgh e.symm
  have hgh1 : ¬ g = h := hgh
  obtain ⟨hb5q0, hb5q1⟩ := hb5.c2; obtain ⟨hb6q0, hb6q1⟩ := hb6.c2
  go_wp2_with fail
  refine (hcm.out _).mono ?_
  rintro e w1 ⟨rfl, hb1⟩
  have hbc1 := bthen hbc hb1
  (try clear hb5q0 hb5q1 hb5f0 hb5f1 hb5s0 hb5s1); have hb5 := hb5.below hb1 hb5.lt; obtain ⟨hb5q0, hb5q1, hb5f0, hb5f1, hb5s0, hb5s1⟩ := hb5.f2; (try clear hb6q0 hb6q1 hb6f0 hb6f1 hb6s0 hb6s1); have hb6 := hb6.below hb1 hb6.lt; obtain ⟨hb6q0, hb6q1, hb6f0, hb6f1, hb6s0, hb6s1⟩ := hb6.f2
  obtain ⟨cv, hcv⟩ : ∃ cv, cmpI a b = cv := ⟨_, rfl⟩
  rw [hcv]
  have hcl : cv < 0 ↔ a < b := by
   rw [<- hcv]
   unfold cmpI
   split
   ·simp; assumption
   split <;> simp <;> omega
  have HCL := lh hcl
  clear hcv hcl hcm hbc hb1
  go_upto_if 21 with fail
  go_cut [20] (fun _ wc => GB W g h X Y wc)
  case first =>
   by_cases hab : a < b
   ·have hXX : X = b /\ Y = a := by have := HXY.out; rw [if_pos hab, if_pos hab] at this; exact this
    obtain ⟨rfl, rfl⟩ := hXX
    have hcn := HCL.out.2 hab
    clear HXY HCL hab
    go_wp2
    go_meet
    obtain ⟨s1, s2⟩ := two_set hb5 hb6 hgh (.int .u64 (lo X : Int)) (.string (mo X)) (.int .u64 (lo Y : Int)) (.string (mo Y))
    exact ⟨s1, s2, (((hbc1.setCell hWg _).setCell hWg _).setCell hWh _).setCell hWh _⟩
   have hXX : X = a /\ Y = b := by have := HXY.out; rw [if_neg hab, if_neg hab] at this; exact this
   obtain ⟨rfl, rfl⟩ := hXX
   have hcn : ¬ cv < 0 := fun h => hab (HCL.out.1 h)
   clear HXY HCL hab
   go_wp2
   go_meet
   exact ⟨hb5, hb6, hbc1⟩
  case rest =>
   clear hb5q0 hb5q1 hb5f0 hb5f1 hb5s0 hb5s1 hb6q0 hb6q1 hb6f0 hb6f1 hb6s0 hb6s1
   clear hb5 hb6 hbc1 HCL HXY
   obtain ⟨hb5, hb6, hbc⟩ := hcut
   have hbs := lh (fun w => nat_bits Y w (by omega))
   unfold natV at hbs
   have b2 := b2.below hbc b2.lt
   obtain ⟨hb5q0, hb5q1, hb5f0, hb5f1, hb5s0, hb5s1⟩ := hb5.f2; obtain ⟨hb6q0, hb6q1, hb6f0, hb6f1, hb6s0, hb6s1⟩ := hb6.f2
   have hpY := blen_pos Y
   have n1 : ¬ g = w.heap.size + 1 + 1 := by have := hZ.out; omega
   have n2 : ¬ w.heap.size + 1 + 1 = g := by have := hZ.out; omega
   have n3 : ¬ h = w.heap.size + 1 + 1 := by have := hZ.out; omega
   have n4 : ¬ w.heap.size + 1 + 1 = h := by have := hZ.out; omega
   go_wp2_with fail
   refine (hbs.out _).mono ?_
   rintro e w1 ⟨rfl, hb1⟩
   have hbc1 := bthen hbc hb1
   (try clear hb5q0 hb5q1 hb5f0 hb5f1 hb5s0 hb5s1); have hb5 := hb5.below hb1 hb5.lt; obtain ⟨hb5q0, hb5q1, hb5f0, hb5f1, hb5s0, hb5s1⟩ := hb5.f2; (try clear hb6q0 hb6q1 hb6f0 hb6f1 hb6s0 hb6s1); have hb6 := hb6.below hb1 hb6.lt; obtain ⟨hb6q0, hb6q1, hb6f0, hb6f1, hb6s0, hb6s1⟩ := hb6.f2
   have b2 := b2.below hb1 b2.lt
   clear hbs hb1 hbc
   have hY0 := HY0.out
   have hY1 : ((blen Y : Int) == 0) = false := by simp; have := hpY.2 hY0; omega
   have hY2 : (blen Y == 0) = false := by simp; have := hpY.2 hY0; omega
   have hdv := lh (fun w => nat_div X Y w hY0 (by omega) (by omega))
   have hgr : Nat.gcd X Y = Nat.gcd Y (X % Y) := by rw [Nat.gcd_comm, Nat.gcd_rec, Nat.gcd_comm]
   rw [hgr] at HGG
   have hRb : blen (X % Y) <= blen Y := blen_mono (Nat.le_of_lt (Nat.mod_lt _ (by omega)))
   have hRY : X % Y < Y := Nat.mod_lt _ (by omega)
   unfold natV at hdv
   generalize X / Y = Q at *
   generalize X % Y = R at *
   clear hgr hpY
   go_wp2_with fail
   refine (hdv.out _).mono ?_
   rintro e w2 ⟨rfl, hb2⟩
   have hbc2 := bthen (bthen hbc1 hb2) (balloc2 w2 (.cells #[.int .u64 (lo Q : Int), .string (mo Q)] 52) (.cells #[.int .u64 (lo R : Int), .string (mo R)] 52))
   have b2 := ((b2.below hb2 b2.lt).alloc (.cells #[.int .u64 (lo Q : Int), .string (mo Q)] 52)).alloc (.cells #[.int .u64 (lo R : Int), .string (mo R)] 52)
   have hb5 := hb5.below hb2 hb5.lt
   have hb6 := hb6.below hb2 hb6.lt
   have hg2 := hb5.lt
   have hh2 := hb6.lt
   have hb5 := (hb5.alloc (.cells #[.int .u64 (lo Q : Int), .string (mo Q)] 52)).alloc (.cells #[.int .u64 (lo R : Int), .string (mo R)] 52)
   have hb6 := (hb6.alloc (.cells #[.int .u64 (lo Q : Int), .string (mo Q)] 52)).alloc (.cells #[.int .u64 (lo R : Int), .string (mo R)] 52)
   have b8 := Blk.new2 w2 (.cells #[.int .u64 (lo Q : Int), .string (mo Q)] 52) 52 #[.int .u64 (lo R : Int), .string (mo R)]
   have n5 : ¬ w2.heap.size + 1 = g := by omega
   have n6 : ¬ w2.heap.size + 1 = h := by omega
   have n7 : ¬ g = w2.heap.size + 1 := by omega
   have n8 : ¬ h = w2.heap.size + 1 := by omega
   have hbc1s := hbc1.size
   have hw2s := hb2.size
   have n9 : ¬ w2.heap.size + 1 = w.heap.size + 1 + 1 := by have := hZ.out; omega
   clear hb2 hbc1 hdv
   clear hb5q0 hb5q1 hb5f0 hb5f1 hb5s0 hb5s1 hb6q0 hb6q1 hb6f0 hb6f1 hb6s0 hb6s1
   obtain ⟨hb5q0, hb5q1, hb5f0, hb5f1, hb5s0, hb5s1⟩ := hb5.f2; obtain ⟨hb6q0, hb6q1, hb6f0, hb6f1, hb6s0, hb6s1⟩ := hb6.f2
   obtain ⟨b8q0, b8q1⟩ := b8.c2
   go_upto_region 7 with fail
   generalize (w2.alloc (.cells #[.int .u64 (lo Q : Int), .string (mo Q)] 52)).alloc (.cells #[.int .u64 (lo R : Int), .string (mo R)] 52) = w3 at *
   go_cut [35] (fun _ wc => GB W g h Y R wc)
   case first =>
    go_region
    all_goals
     go_wp2_with fail
     go_meet
     obtain ⟨s1, s2⟩ := two_set hb5 hb6 hgh (.int .u64 (lo Y : Int)) (.string (mo Y)) (.int .u64 (lo R : Int)) (.string (mo R))
     exact ⟨s1, s2, bdrewN ((((hbc2.setCell hWg _).setCell hWg _).setCell hWh _).setCell hWh _) 1⟩
   case rest =>
    have hWb2 : Blk W (w.heap.size + 1 + 1) 52 #[.int .u64 0, .string ⟨#[]⟩] := by assumption
    clear hb5q0 hb5q1 hb5f0 hb5f1 hb5s0 hb5s1 hb6q0 hb6q1 hb6f0 hb6f1 hb6s0 hb6s1
    clear hb5 hb6 b8q0 b8q1 b8 n5 n6 n7 n8 n9 hg2 hh2 hbc2 b2 hbc1s hw2s hY1 hY2
    obtain ⟨hb5, hb6, hbc⟩ := hcut
    have hbs := lh (fun w => nat_bits R w (by omega))
    unfold natV at hbs
    have b2 := hWb2.below hbc hWb2.lt
    obtain ⟨hb5q0, hb5q1, hb5f0, hb5f1, hb5s0, hb5s1⟩ := hb5.f2; obtain ⟨hb6q0, hb6q1, hb6f0, hb6f1, hb6s0, hb6s1⟩ := hb6.f2
    have hpR := blen_pos R
    go_wp2_with fail
    refine (hbs.out _).mono ?_
    rintro e w1 ⟨rfl, hb1⟩
    have hbc1 := bthen hbc hb1
    (try clear hb5q0 hb5q1 hb5f0 hb5f1 hb5s0 hb5s1); have hb5 := hb5.below hb1 hb5.lt; obtain ⟨hb5q0, hb5q1, hb5f0, hb5f1, hb5s0, hb5s1⟩ := hb5.f2; (try clear hb6q0 hb6q1 hb6f0 hb6f1 hb6s0 hb6s1); have hb6 := hb6.below hb1 hb6.lt; obtain ⟨hb6q0, hb6q1, hb6f0, hb6f1, hb6s0, hb6s1⟩ := hb6.f2
    have b2 := b2.below hb1 b2.lt
    clear hbs hb1 hbc
    have hR0 := HR0.out
    subst hR0
    obtain rfl : Y = GG := by rw [<- HGG.out, Nat.gcd_zero_right]
    have e0 : blen 0 = 0 := rfl
    rw [e0]
    obtain ⟨b2q0, b2q1, b2f0, b2f1, b2s0, b2s1⟩ := b2.f2
    clear e0 hpR
    go_wp2
    refine bodyPost_ret (v := .agg #[.int .u64 (lo Y : Int), .string (mo Y)]) (by simp [results, Tryz.results79, go_sem, b2s0, b2s1]) rfl ?_
    exact ⟨rfl, bset2 (bthen hB hbc1) (by omega) _ _⟩
end Go.Proofs.YtecnjlcfoobepaaGreatDoor
