import Derived.Test.YtcoloflmigcphaaGreatDoorRefInt
namespace Go.Proofs.YtcoloflmigcphaaGreatDoor
set_option maxRecDepth 100000
open Go.RowKit
set_option linter.all false
theorem Jqv (q : Rat) (B : Nat) (V : Value) (w : World) (h : IsQ w B V q) (q9 : B <= w.heap.size) : Calls Tryz.prog 56 #[V] w (Ret (.int .i64 q.num.sign) w) := by
 obtain ⟨n0, A0, l0, c0c, A9, l9, c9c, rfl⟩ := h.shape
 have H := lh h.num
 clear h
 obtain ⟨b0, hB, hZ⟩ := bx1 w 28 #[.bool n0, .slice A0 l0 c0c, .slice A9 l9 c9c]
 go_enter Tryz.func56, Tryz.ntmps56
 go_wp2_with fail
 generalize (w.alloc (.cells #[.bool n0, .slice A0 l0 c0c, .slice A9 l9 c9c] 28)) = W at *
 have hs := Jpr q.num B _ W (H.out.next q9 hB)
 generalize q.num.sign = z at *
 have HS := lh hs
 clear hs H
 obtain ⟨o9, p8, p9⟩ := b0.c3
 refine HS.out.mono ?_
 rintro e w1 ⟨rfl, l5⟩
 go_wp2
 go_ret
 exact ⟨rfl, Ja hB l5⟩
theorem Jk0 (n d : Int) (w : World) (h0 : -9223372036854775808 <= n) (h1 : n <= 9223372036854775807) (h2 : -9223372036854775808 <= d) (h3 : d <= 9223372036854775807) (hd : d ≠ 0) : Calls Tryz.prog 47 #[.int .i64 n, .int .i64 d] w (Jmv (Rat.divInt n d) w) := by
 have s1 : (Jd n.natAbs).length <= 17179869184 := nt (Jab _ 2 (Ze _ (by omega))) (by omega)
 have s2 : (Jd d.natAbs).length <= 17179869184 := nt (Jab _ 2 (Ze _ (by omega))) (by omega)
 have H1 := lh h0
 have H2 := lh h1
 have H3 := lh h2
 have H4 := lh h3
 have HD := lh hd
 clear h0 h1 h2 h3 hd
 obtain ⟨b0, hB, hZ⟩ := bx1 w 28 #[.bool false, .slice none 0 0, .slice none 0 0]
 go_enter Tryz.func47, Tryz.ntmps47
 go_wp2_with fail
 generalize (w.alloc (.cells #[.bool false, .slice none 0 0, .slice none 0 0] 28)) = W at *
 refine (Jd5 n W H1.out H2.out).mono ?_
 rintro e w1 ⟨v1, rfl, j0, l5⟩
 obtain ⟨g1, A1, l1, c1c, rfl⟩ := j0.shape
 have b0 := b0.below l5 b0.lt
 go_wp2_with fail
 refine (Jd5 d w1 H3.out H4.out).mono ?_
 rintro e w2 ⟨v2, rfl, l6, j6⟩
 obtain ⟨g2, A2, l2, c2c, rfl⟩ := l6.shape
 have j0 := (j0.next zd j6).more j6.size
 have b0 := b0.below j6 b0.lt
 go_wp2_with fail
 refine (Jk1 n d _ _ _ w2 j0 l6 zd s1 s2 HD.out).mono ?_
 rintro e w3 ⟨v3, rfl, l7, o0⟩
 obtain ⟨g3, A3, l3, c3c, A3', l3', c3c', rfl⟩ := l7.shape
 have b0 := b0.below o0 b0.lt
 obtain ⟨o9, p8, p9, q8, s9, t7, j7, j8, j9⟩ := b0.f3
 go_wp2
 refine bodyPost_ret (v := .agg #[.bool g3, .slice A3 l3 c3c, .slice A3' l3' c3c']) (by simp [results, Tryz.results47, go_sem, j7, j8, j9]) rfl ?_
 exact Jd4 hB (Ja (Ja l5 j6) o0) l7 b0 (by omega)
