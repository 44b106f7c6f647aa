import Derived.Test.YtecnjlcfoobepaaGreatDoorFracM
namespace Go.Proofs.YtecnjlcfoobepaaGreatDoor
set_option maxRecDepth 100000
set_option maxHeartbeats 2000000
open Go.RowKit
set_option linter.unusedSimpArgs false
set_option linter.unusedVariables false
attribute [local irreducible] lo mo Calls
set_option maxRecDepth 100000 in
set_option maxHeartbeats 2000000 in
theorem frac_cmp_aux (a b : Rat) (w : World) (r : Int) (t : Bool) (ha : QS 549755813888 a) (hb : QS 549755813888 b)
  (ht : t = ((decide (a.den = 1) && decide (b.den = 1)) || (a.num.sign != b.num.sign)))
  (h1 : t = true -> cmpZ a.num b.num = r) (h2 : t = false -> cmpZ (a.num * b.den) (b.num * a.den) = r) :
  Calls Tryz.prog 29 #[qV a, qV b] w (Ret (.int .i64 r) w) := by
 have ha1 := ha.1
 have ha2 := ha.2
 have hb1 := hb.1
 have hb2 := hb.2
 have hwa := fun w => frac_isWhole a w (ha.mono (by omega))
 have hwb := fun w => frac_isWhole b w (hb.mono (by omega))
 have hsa := fun w => frac_sign a w (ha.mono (by omega))
 have hsb := fun w => frac_sign b w (hb.mono (by omega))
 have hda := fun w => frac_den a w (ha.mono (by omega))
 have hdb := fun w => frac_den b w (hb.mono (by omega))
 have hta := fun w => frac_times a.num b.den w (by omega) (by omega)
 have htb := fun w => frac_times b.num a.den w (by omega) (by omega)
 have t1 := blen_mulz a.num b.den
 have t2 := blen_mulz b.num a.den
 rw [Int.natAbs_natCast] at t1 t2
 have hc1 := fun w => whole_cmp a.num b.num w (by omega) (by omega)
 have hc2 := fun w => whole_cmp (a.num * b.den) (b.num * a.den) w (by omega) (by omega)
 have HR := lh (And.intro h1 h2)
 generalize cmpZ a.num b.num = r1 at *
 generalize cmpZ (a.num * b.den) (b.num * a.den) = r2 at *
 generalize a.num * (b.den : Int) = p1 at *
 generalize b.num * (a.den : Int) = p2 at *
 clear h1 h2 t1 t2 ha hb ha1 ha2 hb1 hb2
 unfold natV at hda hdb hta htb
 unfold intV at hta htb hc1 hc2
 unfold qV at hwa hwb hsa hsb hda hdb ⊢
 generalize decide (a.den = 1) = wa at *
 generalize decide (b.den = 1) = wb at *
 generalize decide (a.num < 0) = na at *
 generalize decide (b.num < 0) = nb at *
 generalize decide (p1 < 0) = np1 at *
 generalize decide (p2 < 0) = np2 at *
 generalize a.num.sign = sa at *
 generalize b.num.sign = sb at *
 generalize qden a = ea at *
 generalize qden b = eb at *
 generalize a.num.natAbs = A at *
 generalize b.num.natAbs = B at *
 generalize p1.natAbs = P1 at *
 generalize p2.natAbs = P2 at *
 generalize a.den = da at *
 generalize b.den = db at *
 have HWA := lh hwa
 have HWB := lh hwb
 have HSA := lh hsa
 have HSB := lh hsb
 have HDA := lh hda
 have HDB := lh hdb
 have HTA := lh hta
 have HTB := lh htb
 have HC1 := lh hc1
 have HC2 := lh hc2
 clear hwa hwb hsa hsb hda hdb hta htb hc1 hc2
 have HTT := lh ht
 clear ht
 have b0 := (Blk.new w  56 #[.bool na, .int .u64 (lo A : Int), .string (mo A), .int .u64 (lo ea : Int), .string (mo ea)]).alloc (.cells #[.bool nb, .int .u64 (lo B : Int), .string (mo B), .int .u64 (lo eb : Int), .string (mo eb)] 56); have b1 := Blk.new2 w (.cells #[.bool na, .int .u64 (lo A : Int), .string (mo A), .int .u64 (lo ea : Int), .string (mo ea)] 56) 56 #[.bool nb, .int .u64 (lo B : Int), .string (mo B), .int .u64 (lo eb : Int), .string (mo eb)]; have hB := balloc2 w (.cells #[.bool na, .int .u64 (lo A : Int), .string (mo A), .int .u64 (lo ea : Int), .string (mo ea)] 56) (.cells #[.bool nb, .int .u64 (lo B : Int), .string (mo B), .int .u64 (lo eb : Int), .string (mo eb)] 56); have hZ := lh (show ((w.alloc (.cells #[.bool na, .int .u64 (lo A : Int), .string (mo A), .int .u64 (lo ea : Int), .string (mo ea)] 56)).alloc (.cells #[.bool nb, .int .u64 (lo B : Int), .string (mo B), .int .u64 (lo eb : Int), .string (mo eb)] 56)).heap.size = w.heap.size + 1 + 1 from by simp)
 go_enter Tryz.func29, Tryz.ntmps29
 go_upto_region 1 with fail
 generalize ((w.alloc (.cells #[.bool na, .int .u64 (lo A : Int), .string (mo A), .int .u64 (lo ea : Int), .string (mo ea)] 56)).alloc (.cells #[.bool nb, .int .u64 (lo B : Int), .string (mo B), .int .u64 (lo eb : Int), .string (mo eb)] 56)) = W at *
 go_cut [17] (fun v wc => v = .bool t /\ Below W.heap.size W wc)
 case first =>
  cases wa with
  | true =>
   cases wb with
   | true =>
    obtain rfl : t = true := by rw [HTT.out]; rfl
    obtain ⟨b0q0, b0q1, b0q2, b0q3, b0q4⟩ := b0.c5; have c0z := b0.lt; have c0 := b0.drew; have c0l := c0.lt; obtain ⟨b1q0, b1q1, b1q2, b1q3, b1q4⟩ := b1.c5; have c1z := b1.lt; have c1 := b1.drew; have c1l := c1.lt; have hc := bdrew0 W; go_region_with (first | (go_at_call 64; refine (HWA.out _).mono ?_; rintro e w1 ⟨rfl, hw1⟩; (first | have c0 := c0.ya hw1 | have c0 := c0.yb hw1 | have c0 := c0.yc hw1); (try clear c0q0 c0q1 c0q2 c0q3 c0q4); obtain ⟨c0q0, c0q1, c0q2, c0q3, c0q4⟩ := c0.c5; (try clear c0l); have c0l := c0.lt; (first | have c1 := c1.ya hw1 | have c1 := c1.yb hw1 | have c1 := c1.yc hw1); (try clear c1q0 c1q1 c1q2 c1q3 c1q4); obtain ⟨c1q0, c1q1, c1q2, c1q3, c1q4⟩ := c1.c5; (try clear c1l); have c1l := c1.lt; have hc := bthen hc hw1) | (go_at_call 64; refine (HWB.out _).mono ?_; rintro e w2 ⟨rfl, hw2⟩; (first | have c0 := c0.ya hw2 | have c0 := c0.yb hw2 | have c0 := c0.yc hw2); (try clear c0q0 c0q1 c0q2 c0q3 c0q4); obtain ⟨c0q0, c0q1, c0q2, c0q3, c0q4⟩ := c0.c5; (try clear c0l); have c0l := c0.lt; (first | have c1 := c1.ya hw2 | have c1 := c1.yb hw2 | have c1 := c1.yc hw2); (try clear c1q0 c1q1 c1q2 c1q3 c1q4); obtain ⟨c1q0, c1q1, c1q2, c1q3, c1q4⟩ := c1.c5; (try clear c1l); have c1l := c1.lt; have hc := bthen hc hw2))
    all_goals
     go_wp2
     go_meet
     exact ⟨rfl, hc⟩
   | false =>
    obtain rfl : t = (sa != sb) := by rw [HTT.out]; simp
    obtain ⟨b0q0, b0q1, b0q2, b0q3, b0q4⟩ := b0.c5; have c0z := b0.lt; have c0 := b0.drew; have c0l := c0.lt; obtain ⟨b1q0, b1q1, b1q2, b1q3, b1q4⟩ := b1.c5; have c1z := b1.lt; have c1 := b1.drew; have c1l := c1.lt; have hc := bdrew0 W; go_region_with (first | (go_at_call 64; refine (HWA.out _).mono ?_; rintro e w1 ⟨rfl, hw1⟩; (first | have c0 := c0.ya hw1 | have c0 := c0.yb hw1 | have c0 := c0.yc hw1); (try clear c0q0 c0q1 c0q2 c0q3 c0q4); obtain ⟨c0q0, c0q1, c0q2, c0q3, c0q4⟩ := c0.c5; (try clear c0l); have c0l := c0.lt; (first | have c1 := c1.ya hw1 | have c1 := c1.yb hw1 | have c1 := c1.yc hw1); (try clear c1q0 c1q1 c1q2 c1q3 c1q4); obtain ⟨c1q0, c1q1, c1q2, c1q3, c1q4⟩ := c1.c5; (try clear c1l); have c1l := c1.lt; have hc := bthen hc hw1) | (go_at_call 64; refine (HWB.out _).mono ?_; rintro e w2 ⟨rfl, hw2⟩; (first | have c0 := c0.ya hw2 | have c0 := c0.yb hw2 | have c0 := c0.yc hw2); (try clear c0q0 c0q1 c0q2 c0q3 c0q4); obtain ⟨c0q0, c0q1, c0q2, c0q3, c0q4⟩ := c0.c5; (try clear c0l); have c0l := c0.lt; (first | have c1 := c1.ya hw2 | have c1 := c1.yb hw2 | have c1 := c1.yc hw2); (try clear c1q0 c1q1 c1q2 c1q3 c1q4); obtain ⟨c1q0, c1q1, c1q2, c1q3, c1q4⟩ := c1.c5; (try clear c1l); have c1l := c1.lt; have hc := bthen hc hw2) | (go_at_call 49; refine (HSA.out _).mono ?_; rintro e w3 ⟨rfl, hw3⟩; (first | have c0 := c0.ya hw3 | have c0 := c0.yb hw3 | have c0 := c0.yc hw3); (try clear c0q0 c0q1 c0q2 c0q3 c0q4); obtain ⟨c0q0, c0q1, c0q2, c0q3, c0q4⟩ := c0.c5; (try clear c0l); have c0l := c0.lt; (first | have c1 := c1.ya hw3 | have c1 := c1.yb hw3 | have c1 := c1.yc hw3); (try clear c1q0 c1q1 c1q2 c1q3 c1q4); obtain ⟨c1q0, c1q1, c1q2, c1q3, c1q4⟩ := c1.c5; (try clear c1l); have c1l := c1.lt; have hc := bthen hc hw3) | (go_at_call 49; refine (HSB.out _).mono ?_; rintro e w4 ⟨rfl, hw4⟩; (first | have c0 := c0.ya hw4 | have c0 := c0.yb hw4 | have c0 := c0.yc hw4); (try clear c0q0 c0q1 c0q2 c0q3 c0q4); obtain ⟨c0q0, c0q1, c0q2, c0q3, c0q4⟩ := c0.c5; (try clear c0l); have c0l := c0.lt; (first | have c1 := c1.ya hw4 | have c1 := c1.yb hw4 | have c1 := c1.yc hw4); (try clear c1q0 c1q1 c1q2 c1q3 c1q4); obtain ⟨c1q0, c1q1, c1q2, c1q3, c1q4⟩ := c1.c5; (try clear c1l); have c1l := c1.lt; have hc := bthen hc hw4))
    all_goals
     go_wp2
     go_meet
     exact ⟨rfl, hc⟩
  | false =>
   obtain rfl : t = (sa != sb) := by rw [HTT.out]; simp
   obtain ⟨b0q0, b0q1, b0q2, b0q3, b0q4⟩ := b0.c5; have c0z := b0.lt; have c0 := b0.drew; have c0l := c0.lt; obtain ⟨b1q0, b1q1, b1q2, b1q3, b1q4⟩ := b1.c5; have c1z := b1.lt; have c1 := b1.drew; have c1l := c1.lt; have hc := bdrew0 W; go_region_with (first | (go_at_call 64; refine (HWA.out _).mono ?_; rintro e w1 ⟨rfl, hw1⟩; (first | have c0 := c0.ya hw1 | have c0 := c0.yb hw1 | have c0 := c0.yc hw1); (try clear c0q0 c0q1 c0q2 c0q3 c0q4); obtain ⟨c0q0, c0q1, c0q2, c0q3, c0q4⟩ := c0.c5; (try clear c0l); have c0l := c0.lt; (first | have c1 := c1.ya hw1 | have c1 := c1.yb hw1 | have c1 := c1.yc hw1); (try clear c1q0 c1q1 c1q2 c1q3 c1q4); obtain ⟨c1q0, c1q1, c1q2, c1q3, c1q4⟩ := c1.c5; (try clear c1l); have c1l := c1.lt; have hc := bthen hc hw1) | (go_at_call 49; refine (HSA.out _).mono ?_; rintro e w2 ⟨rfl, hw2⟩; (first | have c0 := c0.ya hw2 | have c0 := c0.yb hw2 | have c0 := c0.yc hw2); (try clear c0q0 c0q1 c0q2 c0q3 c0q4); obtain ⟨c0q0, c0q1, c0q2, c0q3, c0q4⟩ := c0.c5; (try clear c0l); have c0l := c0.lt; (first | have c1 := c1.ya hw2 | have c1 := c1.yb hw2 | have c1 := c1.yc hw2); (try clear c1q0 c1q1 c1q2 c1q3 c1q4); obtain ⟨c1q0, c1q1, c1q2, c1q3, c1q4⟩ := c1.c5; (try clear c1l); have c1l := c1.lt; have hc := bthen hc hw2) | (go_at_call 49; refine (HSB.out _).mono ?_; rintro e w3 ⟨rfl, hw3⟩; (first | have c0 := c0.ya hw3 | have c0 := c0.yb hw3 | have c0 := c0.yc hw3); (try clear c0q0 c0q1 c0q2 c0q3 c0q4); obtain ⟨c0q0, c0q1, c0q2, c0q3, c0q4⟩ := c0.c5; (try clear c0l); have c0l := c0.lt; (first | have c1 := c1.ya hw3 | have c1 := c1.yb hw3 | have c1 := c1.yc hw3); (try clear c1q0 c1q1 c1q2 c1q3 c1q4); obtain ⟨c1q0, c1q1, c1q2, c1q3, c1q4⟩ := c1.c5; (try clear c1l); have c1l := c1.lt; have hc := bthen hc hw3))
   all_goals
    go_wp2
    go_meet
    exact ⟨rfl, hc⟩
 case rest =>
  obtain ⟨rfl, hbc⟩ := hcut
  rename World => wc
  clear HWA HWB HSA HSB HTT
  have b0 := b0.below hbc b0.lt
  have b1 := b1.below hbc b1.lt
  have hB1 := bthen hB hbc
  clear hbc hB
  cases t with
  | true =>
   obtain rfl := HR.out.1 rfl
   obtain ⟨b0q0, b0q1, b0q2, b0q3, b0q4⟩ := b0.c5; obtain ⟨b1q0, b1q1, b1q2, b1q3, b1q4⟩ := b1.c5
   go_wp2_with fail
   refine (HC1.out _).mono ?_
   rintro e w1 ⟨rfl, hb1⟩
   go_wp2
   go_ret
   exact ⟨rfl, bthen hB1 hb1⟩
  | false =>
   obtain rfl := HR.out.2 rfl
   go_upto_region 3 with fail
   obtain ⟨b0q0, b0q1, b0q2, b0q3, b0q4⟩ := b0.c5; have c0z := b0.lt; have c0 := b0.drew; have c0l := c0.lt; obtain ⟨b1q0, b1q1, b1q2, b1q3, b1q4⟩ := b1.c5; have c1z := b1.lt; have c1 := b1.drew; have c1l := c1.lt; have hc := bdrew0 wc; go_region_held3 (fun w' => w'.cell? ⟨w.heap.size, 0, none⟩ = some (.bool na) /\ w'.cell? ⟨w.heap.size, 1, none⟩ = some (.int .u64 (lo A : Int)) /\ w'.cell? ⟨w.heap.size, 2, none⟩ = some (.string (mo A)) /\ w'.cell? ⟨w.heap.size, 3, none⟩ = some (.int .u64 (lo ea : Int)) /\ w'.cell? ⟨w.heap.size, 4, none⟩ = some (.string (mo ea)) /\ w'.cell? ⟨w.heap.size + 1, 0, none⟩ = some (.bool nb) /\ w'.cell? ⟨w.heap.size + 1, 1, none⟩ = some (.int .u64 (lo B : Int)) /\ w'.cell? ⟨w.heap.size + 1, 2, none⟩ = some (.string (mo B)) /\ w'.cell? ⟨w.heap.size + 1, 3, none⟩ = some (.int .u64 (lo eb : Int)) /\ w'.cell? ⟨w.heap.size + 1, 4, none⟩ = some (.string (mo eb))) (go_keep) (first | (go_at_call 67; refine (HDB.out _).mono ?_; rintro e w1 ⟨rfl, hw1⟩; (first | have c0 := c0.ya hw1 | have c0 := c0.yb hw1 | have c0 := c0.yc hw1); (try clear c0q0 c0q1 c0q2 c0q3 c0q4); obtain ⟨c0q0, c0q1, c0q2, c0q3, c0q4⟩ := c0.c5; (try clear c0l); have c0l := c0.lt; (first | have c1 := c1.ya hw1 | have c1 := c1.yb hw1 | have c1 := c1.yc hw1); (try clear c1q0 c1q1 c1q2 c1q3 c1q4); obtain ⟨c1q0, c1q1, c1q2, c1q3, c1q4⟩ := c1.c5; (try clear c1l); have c1l := c1.lt; have hc := bthen hc hw1) | (go_at_call 66; refine (HTA.out _).mono ?_; rintro e w2 ⟨rfl, hw2⟩; (first | have c0 := c0.ya hw2 | have c0 := c0.yb hw2 | have c0 := c0.yc hw2); (try clear c0q0 c0q1 c0q2 c0q3 c0q4); obtain ⟨c0q0, c0q1, c0q2, c0q3, c0q4⟩ := c0.c5; (try clear c0l); have c0l := c0.lt; (first | have c1 := c1.ya hw2 | have c1 := c1.yb hw2 | have c1 := c1.yc hw2); (try clear c1q0 c1q1 c1q2 c1q3 c1q4); obtain ⟨c1q0, c1q1, c1q2, c1q3, c1q4⟩ := c1.c5; (try clear c1l); have c1l := c1.lt; have hc := bthen hc hw2) | (go_at_call 67; refine (HDA.out _).mono ?_; rintro e w3 ⟨rfl, hw3⟩; (first | have c0 := c0.ya hw3 | have c0 := c0.yb hw3 | have c0 := c0.yc hw3); (try clear c0q0 c0q1 c0q2 c0q3 c0q4); obtain ⟨c0q0, c0q1, c0q2, c0q3, c0q4⟩ := c0.c5; (try clear c0l); have c0l := c0.lt; (first | have c1 := c1.ya hw3 | have c1 := c1.yb hw3 | have c1 := c1.yc hw3); (try clear c1q0 c1q1 c1q2 c1q3 c1q4); obtain ⟨c1q0, c1q1, c1q2, c1q3, c1q4⟩ := c1.c5; (try clear c1l); have c1l := c1.lt; have hc := bthen hc hw3) | (go_at_call 66; refine (HTB.out _).mono ?_; rintro e w4 ⟨rfl, hw4⟩; (first | have c0 := c0.ya hw4 | have c0 := c0.yb hw4 | have c0 := c0.yc hw4); (try clear c0q0 c0q1 c0q2 c0q3 c0q4); obtain ⟨c0q0, c0q1, c0q2, c0q3, c0q4⟩ := c0.c5; (try clear c0l); have c0l := c0.lt; (first | have c1 := c1.ya hw4 | have c1 := c1.yb hw4 | have c1 := c1.yc hw4); (try clear c1q0 c1q1 c1q2 c1q3 c1q4); obtain ⟨c1q0, c1q1, c1q2, c1q3, c1q4⟩ := c1.c5; (try clear c1l); have c1l := c1.lt; have hc := bthen hc hw4) | (go_at_call 65; refine (HC2.out _).mono ?_; rintro e w5 ⟨rfl, hw5⟩; (first | have c0 := c0.ya hw5 | have c0 := c0.yb hw5 | have c0 := c0.yc hw5); (try clear c0q0 c0q1 c0q2 c0q3 c0q4); obtain ⟨c0q0, c0q1, c0q2, c0q3, c0q4⟩ := c0.c5; (try clear c0l); have c0l := c0.lt; (first | have c1 := c1.ya hw5 | have c1 := c1.yb hw5 | have c1 := c1.yc hw5); (try clear c1q0 c1q1 c1q2 c1q3 c1q4); obtain ⟨c1q0, c1q1, c1q2, c1q3, c1q4⟩ := c1.c5; (try clear c1l); have c1l := c1.lt; have hc := bthen hc hw5))
   all_goals
    go_wp2
    go_ret
    exact ⟨rfl, bthen hB1 hc⟩
theorem frac_cmp (a b : Rat) (w : World) (ha : QS 549755813888 a) (hb : QS 549755813888 b) : Calls Tryz.prog 29 #[qV a, qV b] w (Ret (.int .i64 (cmpQ a b)) w) := by
 refine frac_cmp_aux a b w _ _ ha hb rfl (fun h => ?_) (fun _ => cmpQ_cross a b)
 simp only [Bool.or_eq_true, Bool.and_eq_true, decide_eq_true_eq, bne_iff_ne] at h
 rcases h with h | h
 ·exact cmpQ_whole a b h.1 h.2
 exact cmpQ_signs a b h
end Go.Proofs.YtecnjlcfoobepaaGreatDoor
