import Derived.Test.YtacbcaebaomglaaGreatDoorRefInt
namespace Go.Proofs.YtacbcaebaomglaaGreatDoor
set_option maxRecDepth 100000
open Go.RowKit
set_option linter.all false
theorem Jlb (z : Int) (w : World) (h0 : -9223372036854775808 <= z) (h1 : z <= 9223372036854775807) : Calls Tryz.prog 87 #[.int .i64 z] w (Jif (z : Rat) w) := by
 have H1 := lh h0
 have H2 := lh h1
 clear h0 h1
 obtain ⟨b0, hB, hZ⟩ := bx1 w 56 #[.bool false, .slice none 0 0, .slice none 0 0]
 go_enter Tryz.func87, Tryz.ntmps87
 go_wp2_with fail
 generalize (w.alloc (.cells #[.bool false, .slice none 0 0, .slice none 0 0] 56)) = W at *
 refine (Jat z W H1.out H2.out).mono ?_
 rintro e w1 ⟨v1, rfl, e8, j8⟩
 obtain ⟨g1, A1, l1, c1c, rfl⟩ := e8.shape
 have b0 := b0.below j8 b0.lt
 go_wp2_with fail
 refine (Vb 1 w1 (by omega)).mono ?_
 rintro e w2 ⟨v2, rfl, j9, e9⟩
 obtain ⟨A2, l2, c2c, rfl⟩ := j9.form
 have e8 := (e8.next zd e9).more e9.size
 have b0 := b0.below e9 b0.lt
 obtain ⟨l5, l7, o0, o6, o7, o8, j0, j6, j7⟩ := b0.f3
 go_wp2
 refine bodyPost_ret (v := .agg #[.bool g1, .slice A1 l1 c1c, .slice A2 l2 c2c]) (by simp [results, Tryz.results87, go_sem, j0, j6, j7]) rfl ?_
 exact Va hB (Ja j8 e9) (IsQ.mk (q := (z : Rat)) e8 j9) b0 (by omega)
theorem Je4 (n d : Int) (w : World) (h0 : -9223372036854775808 <= n) (h1 : n <= 9223372036854775807) (h2 : -9223372036854775808 <= d) (h3 : d <= 9223372036854775807) (hd : d ≠ 0) : Calls Tryz.prog 27 #[.int .i64 n, .int .i64 d] w (Jif (Rat.divInt n d) w) := by
 have s1 : (Jd n.natAbs).length <= 17179869184 := nt (Vs _ 2 (Xz _ (by omega))) (by omega)
 have s2 : (Jd d.natAbs).length <= 17179869184 := nt (Vs _ 2 (Xz _ (by omega))) (by omega)
 have H1 := lh h0
 have H2 := lh h1
 have H3 := lh h2
 have H4 := lh h3
 have HD := lh hd
 clear h0 h1 h2 h3 hd
 obtain ⟨b0, hB, hZ⟩ := bx1 w 56 #[.bool false, .slice none 0 0, .slice none 0 0]
 go_enter Tryz.func27, Tryz.ntmps27
 go_wp2_with fail
 generalize (w.alloc (.cells #[.bool false, .slice none 0 0, .slice none 0 0] 56)) = W at *
 refine (Jat n W H1.out H2.out).mono ?_
 rintro e w1 ⟨v1, rfl, e8, j8⟩
 obtain ⟨g1, A1, l1, c1c, rfl⟩ := e8.shape
 have b0 := b0.below j8 b0.lt
 go_wp2_with fail
 refine (Jat d w1 H3.out H4.out).mono ?_
 rintro e w2 ⟨v2, rfl, j9, e9⟩
 obtain ⟨g2, A2, l2, c2c, rfl⟩ := j9.shape
 have e8 := (e8.next zd e9).more e9.size
 have b0 := b0.below e9 b0.lt
 go_wp2_with fail
 refine (Jiy n d _ _ _ w2 e8 j9 zd s1 s2 HD.out).mono ?_
 rintro e w3 ⟨v3, rfl, o9, p0⟩
 obtain ⟨g3, A3, l3, c3c, A3', l3', c3c', rfl⟩ := o9.shape
 have b0 := b0.below p0 b0.lt
 obtain ⟨l5, l7, o0, o6, o7, o8, j0, j6, j7⟩ := b0.f3
 go_wp2
 refine bodyPost_ret (v := .agg #[.bool g3, .slice A3 l3 c3c, .slice A3' l3' c3c']) (by simp [results, Tryz.results27, go_sem, j0, j6, j7]) rfl ?_
 exact Va hB (Ja (Ja j8 e9) p0) o9 b0 (by omega)
