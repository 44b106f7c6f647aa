import Derived.Test.YtecnjlcfoobepaaGreatDoorRefInt
import Derived.Test.YtecnjlcfoobepaaGreatDoorWholeM
namespace Go.Proofs.YtecnjlcfoobepaaGreatDoor
open Go.RowKit
set_option linter.unusedSimpArgs false
set_option linter.unusedVariables false
set_option maxRecDepth 100000 in
theorem ref_of (z : Int) (w : World) (h0 : -9223372036854775808 ≤ z) (h1 : z ≤ 9223372036854775807) : Calls Tryz.prog 69 #[.int .i64 z] w (RetQ (z : Rat) w) := by
 have H1 := Lib.hid h0
 have H2 := Lib.hid h1
 clear h0 h1
 have b0 := Blk.new w  70 #[.bool false, .slice none 0 0, .slice none 0 0]; have hB := balloc1 w (.cells #[.bool false, .slice none 0 0, .slice none 0 0] 70); have hZ := Lib.hid (show (w.alloc (.cells #[.bool false, .slice none 0 0, .slice none 0 0] 70)).heap.size = w.heap.size + 1 from by simp)
 go_enter Tryz.func69, Tryz.ntmps69
 go_wp2_with fail
 generalize (w.alloc (.cells #[.bool false, .slice none 0 0, .slice none 0 0] 70)) = W at *
 refine (ref_intOf z W H1.out H2.out).mono ?_
 rintro e w1 ⟨v1, rfl, hR1, hw1⟩
 obtain ⟨g1, A1, l1, c1c, rfl⟩ := hR1.shape
 have b0 := b0.below hw1 b0.lt
 go_wp2_with fail
 refine (ref_natOf 1 w1 (by omega)).mono ?_
 rintro e w2 ⟨v2, rfl, hR2, hw2⟩
 obtain ⟨A2, l2, c2c, rfl⟩ := hR2.form
 have hR1 := (hR1.next (Nat.le_refl _) hw2).more hw2.size
 have b0 := b0.below hw2 b0.lt
 obtain ⟨b0q0, b0q1, b0q2, b0f0, b0f1, b0f2, b0s0, b0s1, b0s2⟩ := b0.f3
 go_wp2
 refine bodyPost_ret (v := .agg #[.bool g1, .slice A1 l1 c1c, .slice A2 l2 c2c]) (by simp [results, Tryz.results69, go_sem, b0s0, b0s1, b0s2]) rfl ?_
 exact retQ_done hB (bthen hw1 hw2) (IsQ.mk (q := (z : Rat)) hR1 hR2) b0 (by omega)
set_option maxRecDepth 100000 in
theorem ref_over (n d : Int) (w : World) (h0 : -9223372036854775808 ≤ n) (h1 : n ≤ 9223372036854775807) (h2 : -9223372036854775808 ≤ d) (h3 : d ≤ 9223372036854775807) (hd : d ≠ 0) : Calls Tryz.prog 36 #[.int .i64 n, .int .i64 d] w (RetQ (Rat.divInt n d) w) := by
 have s1 : (limbs n.natAbs).length ≤ 17179869184 := Nat.le_trans (limbs_blen _ 2 (blen_small _ (by omega))) (by omega)
 have s2 : (limbs d.natAbs).length ≤ 17179869184 := Nat.le_trans (limbs_blen _ 2 (blen_small _ (by omega))) (by omega)
 have H1 := Lib.hid h0
 have H2 := Lib.hid h1
 have H3 := Lib.hid h2
 have H4 := Lib.hid h3
 have HD := Lib.hid hd
 clear h0 h1 h2 h3 hd
 have b0 := Blk.new w  70 #[.bool false, .slice none 0 0, .slice none 0 0]; have hB := balloc1 w (.cells #[.bool false, .slice none 0 0, .slice none 0 0] 70); have hZ := Lib.hid (show (w.alloc (.cells #[.bool false, .slice none 0 0, .slice none 0 0] 70)).heap.size = w.heap.size + 1 from by simp)
 go_enter Tryz.func36, Tryz.ntmps36
 go_wp2_with fail
 generalize (w.alloc (.cells #[.bool false, .slice none 0 0, .slice none 0 0] 70)) = W at *
 refine (ref_intOf n W H1.out H2.out).mono ?_
 rintro e w1 ⟨v1, rfl, hR1, hw1⟩
 obtain ⟨g1, A1, l1, c1c, rfl⟩ := hR1.shape
 have b0 := b0.below hw1 b0.lt
 go_wp2_with fail
 refine (ref_intOf d w1 H3.out H4.out).mono ?_
 rintro e w2 ⟨v2, rfl, hR2, hw2⟩
 obtain ⟨g2, A2, l2, c2c, rfl⟩ := hR2.shape
 have hR1 := (hR1.next (Nat.le_refl _) hw2).more hw2.size
 have b0 := b0.below hw2 b0.lt
 go_wp2_with fail
 refine (ref_make n d _ _ _ w2 hR1 hR2 (Nat.le_refl _) s1 s2 HD.out).mono ?_
 rintro e w3 ⟨v3, rfl, hR3, hw3⟩
 obtain ⟨g3, A3, l3, c3c, A3', l3', c3c', rfl⟩ := hR3.shape
 have b0 := b0.below hw3 b0.lt
 obtain ⟨b0q0, b0q1, b0q2, b0f0, b0f1, b0f2, b0s0, b0s1, b0s2⟩ := b0.f3
 go_wp2
 refine bodyPost_ret (v := .agg #[.bool g3, .slice A3 l3 c3c, .slice A3' l3' c3c']) (by simp [results, Tryz.results36, go_sem, b0s0, b0s1, b0s2]) rfl ?_
 exact retQ_done hB (bthen (bthen hw1 hw2) hw3) hR3 b0 (by omega)
end Go.Proofs.YtecnjlcfoobepaaGreatDoor
