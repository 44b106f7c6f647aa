import Derived.Test.YtacbcaebaomglaaGreatDoorFracM
namespace Go.Proofs.YtacbcaebaomglaaGreatDoor
set_option maxRecDepth 100000
set_option maxHeartbeats 2000000
open Go.RowKit
set_option linter.all false
attribute [local irreducible] lo mo Calls
set_option maxRecDepth 100000 in
set_option maxHeartbeats 2000000 in
theorem Jgw (a b : Rat) (w : World) (r : Int) (t : Bool) (ha : QS 549755813888 a) (hb : QS 549755813888 b)
  (ht : t = ((decide (a.den = 1) && decide (b.den = 1)) || (a.num.sign != b.num.sign)))
  (h1 : t = true -> Vn a.num b.num = r) (h2 : t = false -> Vn (a.num * b.den) (b.num * a.den) = r) :
  Calls Tryz.prog 32 #[qV a, qV b] w (Ret (.int .i64 r) w) := by
 have aR := ha.1
 have aS := ha.2
 have aG := hb.1
 have aT := hb.2
 have aH := fun w => Qn a w (ha.mono (by omega))
 have aI := fun w => Qn b w (hb.mono (by omega))
 have aJ := fun w => Jco a w (ha.mono (by omega))
 have aK := fun w => Jco b w (hb.mono (by omega))
 have aB := fun w => Kg a w (ha.mono (by omega))
 have aC := fun w => Kg b w (hb.mono (by omega))
 have aD := fun w => Vm a.num b.den w (by omega) (by omega)
 have aE := fun w => Vm b.num a.den w (by omega) (by omega)
 have t1 := Yy a.num b.den
 have t2 := Yy b.num a.den
 rw [Int.natAbs_natCast] at t1 t2
 have aL := fun w => Je7 a.num b.num w (by omega) (by omega)
 have aM := fun w => Je7 (a.num * b.den) (b.num * a.den) w (by omega) (by omega)
 have HR := lh (And.intro h1 h2)
 generalize Vn a.num b.num = r1 at *
 generalize Vn (a.num * b.den) (b.num * a.den) = r2 at *
 generalize a.num * (b.den : Int) = p1 at *
 generalize b.num * (a.den : Int) = p2 at *
 clear h1 h2 t1 t2 ha hb aR aS aG aT
 unfold Jh at aB aC aD aE
 unfold Jx at aD aE aL aM
 unfold qV at aH aI aJ aK aB aC ⊢
 generalize decide (a.den = 1) = wa at *
 generalize decide (b.den = 1) = wb at *
 generalize decide (a.num < 0) = na at *
 generalize decide (b.num < 0) = nb at *
 generalize decide (p1 < 0) = np1 at *
 generalize decide (p2 < 0) = np2 at *
 generalize a.num.sign = sa at *
 generalize b.num.sign = sb at *
 generalize qden a = ea at *
 generalize qden b = eb at *
 generalize a.num.natAbs = A at *
 generalize b.num.natAbs = B at *
 generalize p1.natAbs = P1 at *
 generalize p2.natAbs = P2 at *
 generalize a.den = da at *
 generalize b.den = db at *
 have HWA := lh aH
 have HWB := lh aI
 have HSA := lh aJ
 have HSB := lh aK
 have HDA := lh aB
 have HDB := lh aC
 have HTA := lh aD
 have HTB := lh aE
 have HC1 := lh aL
 have HC2 := lh aM
 clear aH aI aJ aK aB aC aD aE aL aM
 have HTT := lh ht
 clear ht
 obtain ⟨b0, b1, hB, hZ⟩ := bx2 w 65 #[.bool na, .int .u64 (lo A : Int), .string (mo A), .int .u64 (lo ea : Int), .string (mo ea)] 65 #[.bool nb, .int .u64 (lo B : Int), .string (mo B), .int .u64 (lo eb : Int), .string (mo eb)]
 go_enter Tryz.func32, Tryz.ntmps32
 go_upto_region 1 with fail
 generalize ((w.alloc (.cells #[.bool na, .int .u64 (lo A : Int), .string (mo A), .int .u64 (lo ea : Int), .string (mo ea)] 65)).alloc (.cells #[.bool nb, .int .u64 (lo B : Int), .string (mo B), .int .u64 (lo eb : Int), .string (mo eb)] 65)) = W at *
 go_cut [17] (fun v wc => v = .bool t /\ Below W.heap.size W wc)
 case first =>
  cases wa with
  | true =>
   cases wb with
   | true =>
    obtain rfl : t = true := by rw [HTT.out]; rfl
    obtain ⟨q8, s9, t7, t8, u4⟩ := b0.c5; have aN := b0.lt; have c0 := b0.drew; have o8 := c0.lt; obtain ⟨x7, x8, x9, y8, y9⟩ := b1.c5; have aO := b1.lt; have c1 := b1.drew; have o9 := c1.lt; have hc := Ji W; go_region_with (first | (go_at_call 72; refine (HWA.out _).mono ?_; rintro e w1 ⟨rfl, p7⟩; (try clear e8 e9 j0 j6 j7); obtain ⟨c0, e8, e9, j0, j6, j7⟩ := c0.zc5 p7; (try clear o8); have o8 := c0.lt; (try clear j8 j9 o0 o6 o7); obtain ⟨c1, j8, j9, o0, o6, o7⟩ := c1.zc5 p7; (try clear o9); have o9 := c1.lt; have hc := Ja hc p7) | (go_at_call 72; refine (HWB.out _).mono ?_; rintro e w2 ⟨rfl, p8⟩; (try clear e8 e9 j0 j6 j7); obtain ⟨c0, e8, e9, j0, j6, j7⟩ := c0.zc5 p8; (try clear o8); have o8 := c0.lt; (try clear j8 j9 o0 o6 o7); obtain ⟨c1, j8, j9, o0, o6, o7⟩ := c1.zc5 p8; (try clear o9); have o9 := c1.lt; have hc := Ja hc p8))
    all_goals
     go_wp2
     go_meet
     exact ⟨rfl, hc⟩
   | false =>
    obtain rfl : t = (sa != sb) := by rw [HTT.out]; simp
    obtain ⟨q8, s9, t7, t8, u4⟩ := b0.c5; have aN := b0.lt; have c0 := b0.drew; have o8 := c0.lt; obtain ⟨x7, x8, x9, y8, y9⟩ := b1.c5; have aO := b1.lt; have c1 := b1.drew; have o9 := c1.lt; have hc := Ji W; go_region_with (first | (go_at_call 72; refine (HWA.out _).mono ?_; rintro e w1 ⟨rfl, p7⟩; (try clear e8 e9 j0 j6 j7); obtain ⟨c0, e8, e9, j0, j6, j7⟩ := c0.zc5 p7; (try clear o8); have o8 := c0.lt; (try clear j8 j9 o0 o6 o7); obtain ⟨c1, j8, j9, o0, o6, o7⟩ := c1.zc5 p7; (try clear o9); have o9 := c1.lt; have hc := Ja hc p7) | (go_at_call 72; refine (HWB.out _).mono ?_; rintro e w2 ⟨rfl, p8⟩; (try clear e8 e9 j0 j6 j7); obtain ⟨c0, e8, e9, j0, j6, j7⟩ := c0.zc5 p8; (try clear o8); have o8 := c0.lt; (try clear j8 j9 o0 o6 o7); obtain ⟨c1, j8, j9, o0, o6, o7⟩ := c1.zc5 p8; (try clear o9); have o9 := c1.lt; have hc := Ja hc p8) | (go_at_call 52; refine (HSA.out _).mono ?_; rintro e w3 ⟨rfl, p9⟩; (try clear e8 e9 j0 j6 j7); obtain ⟨c0, e8, e9, j0, j6, j7⟩ := c0.zc5 p9; (try clear o8); have o8 := c0.lt; (try clear j8 j9 o0 o6 o7); obtain ⟨c1, j8, j9, o0, o6, o7⟩ := c1.zc5 p9; (try clear o9); have o9 := c1.lt; have hc := Ja hc p9) | (go_at_call 52; refine (HSB.out _).mono ?_; rintro e w4 ⟨rfl, aA⟩; (try clear e8 e9 j0 j6 j7); obtain ⟨c0, e8, e9, j0, j6, j7⟩ := c0.zc5 aA; (try clear o8); have o8 := c0.lt; (try clear j8 j9 o0 o6 o7); obtain ⟨c1, j8, j9, o0, o6, o7⟩ := c1.zc5 aA; (try clear o9); have o9 := c1.lt; have hc := Ja hc aA))
    all_goals
     go_wp2
     go_meet
     exact ⟨rfl, hc⟩
  | false =>
   obtain rfl : t = (sa != sb) := by rw [HTT.out]; simp
   obtain ⟨q8, s9, t7, t8, u4⟩ := b0.c5; have aN := b0.lt; have c0 := b0.drew; have o8 := c0.lt; obtain ⟨x7, x8, x9, y8, y9⟩ := b1.c5; have aO := b1.lt; have c1 := b1.drew; have o9 := c1.lt; have hc := Ji W; go_region_with (first | (go_at_call 72; refine (HWA.out _).mono ?_; rintro e w1 ⟨rfl, p7⟩; (try clear e8 e9 j0 j6 j7); obtain ⟨c0, e8, e9, j0, j6, j7⟩ := c0.zc5 p7; (try clear o8); have o8 := c0.lt; (try clear j8 j9 o0 o6 o7); obtain ⟨c1, j8, j9, o0, o6, o7⟩ := c1.zc5 p7; (try clear o9); have o9 := c1.lt; have hc := Ja hc p7) | (go_at_call 52; refine (HSA.out _).mono ?_; rintro e w2 ⟨rfl, p8⟩; (try clear e8 e9 j0 j6 j7); obtain ⟨c0, e8, e9, j0, j6, j7⟩ := c0.zc5 p8; (try clear o8); have o8 := c0.lt; (try clear j8 j9 o0 o6 o7); obtain ⟨c1, j8, j9, o0, o6, o7⟩ := c1.zc5 p8; (try clear o9); have o9 := c1.lt; have hc := Ja hc p8) | (go_at_call 52; refine (HSB.out _).mono ?_; rintro e w3 ⟨rfl, p9⟩; (try clear e8 e9 j0 j6 j7); obtain ⟨c0, e8, e9, j0, j6, j7⟩ := c0.zc5 p9; (try clear o8); have o8 := c0.lt; (try clear j8 j9 o0 o6 o7); obtain ⟨c1, j8, j9, o0, o6, o7⟩ := c1.zc5 p9; (try clear o9); have o9 := c1.lt; have hc := Ja hc p9))
   all_goals
    go_wp2
    go_meet
    exact ⟨rfl, hc⟩
 case rest =>
  obtain ⟨rfl, aF⟩ := hcut
  rename World => wc
  clear HWA HWB HSA HSB HTT
  have b0 := b0.below aF b0.lt
  have b1 := b1.below aF b1.lt
  have aQ := Ja hB aF
  clear aF hB
  cases t with
  | true =>
   obtain rfl := HR.out.1 rfl
   obtain ⟨q8, s9, t7, t8, u4⟩ := b0.c5; obtain ⟨x7, x8, x9, y8, y9⟩ := b1.c5
   go_wp2_with fail
   refine (HC1.out _).mono ?_
   rintro e w1 ⟨rfl, aG⟩
   go_wp2
   go_ret
   exact ⟨rfl, Ja aQ aG⟩
  | false =>
   obtain rfl := HR.out.2 rfl
   go_upto_region 3 with fail
   obtain ⟨q8, s9, t7, t8, u4⟩ := b0.c5; have aN := b0.lt; have c0 := b0.drew; have o8 := c0.lt; obtain ⟨x7, x8, x9, y8, y9⟩ := b1.c5; have aO := b1.lt; have c1 := b1.drew; have o9 := c1.lt; have hc := Ji wc; go_region_held3 (fun w' => w'.cell? ⟨w.heap.size, 0, none⟩ = some (.bool na) /\ w'.cell? ⟨w.heap.size, 1, none⟩ = some (.int .u64 (lo A : Int)) /\ w'.cell? ⟨w.heap.size, 2, none⟩ = some (.string (mo A)) /\ w'.cell? ⟨w.heap.size, 3, none⟩ = some (.int .u64 (lo ea : Int)) /\ w'.cell? ⟨w.heap.size, 4, none⟩ = some (.string (mo ea)) /\ w'.cell? ⟨w.heap.size + 1, 0, none⟩ = some (.bool nb) /\ w'.cell? ⟨w.heap.size + 1, 1, none⟩ = some (.int .u64 (lo B : Int)) /\ w'.cell? ⟨w.heap.size + 1, 2, none⟩ = some (.string (mo B)) /\ w'.cell? ⟨w.heap.size + 1, 3, none⟩ = some (.int .u64 (lo eb : Int)) /\ w'.cell? ⟨w.heap.size + 1, 4, none⟩ = some (.string (mo eb))) (go_keep) (first | (go_at_call 75; refine (HDB.out _).mono ?_; rintro e w1 ⟨rfl, p7⟩; (try clear e8 e9 j0 j6 j7); obtain ⟨c0, e8, e9, j0, j6, j7⟩ := c0.zc5 p7; (try clear o8); have o8 := c0.lt; (try clear j8 j9 o0 o6 o7); obtain ⟨c1, j8, j9, o0, o6, o7⟩ := c1.zc5 p7; (try clear o9); have o9 := c1.lt; have hc := Ja hc p7) | (go_at_call 81; refine (HTA.out _).mono ?_; rintro e w2 ⟨rfl, p8⟩; (try clear e8 e9 j0 j6 j7); obtain ⟨c0, e8, e9, j0, j6, j7⟩ := c0.zc5 p8; (try clear o8); have o8 := c0.lt; (try clear j8 j9 o0 o6 o7); obtain ⟨c1, j8, j9, o0, o6, o7⟩ := c1.zc5 p8; (try clear o9); have o9 := c1.lt; have hc := Ja hc p8) | (go_at_call 75; refine (HDA.out _).mono ?_; rintro e w3 ⟨rfl, p9⟩; (try clear e8 e9 j0 j6 j7); obtain ⟨c0, e8, e9, j0, j6, j7⟩ := c0.zc5 p9; (try clear o8); have o8 := c0.lt; (try clear j8 j9 o0 o6 o7); obtain ⟨c1, j8, j9, o0, o6, o7⟩ := c1.zc5 p9; (try clear o9); have o9 := c1.lt; have hc := Ja hc p9) | (go_at_call 81; refine (HTB.out _).mono ?_; rintro e w4 ⟨rfl, aA⟩; (try clear e8 e9 j0 j6 j7); obtain ⟨c0, e8, e9, j0, j6, j7⟩ := c0.zc5 aA; (try clear o8); have o8 := c0.lt; (try clear j8 j9 o0 o6 o7); obtain ⟨c1, j8, j9, o0, o6, o7⟩ := c1.zc5 aA; (try clear o9); have o9 := c1.lt; have hc := Ja hc aA) | (go_at_call 80; refine (HC2.out _).mono ?_; rintro e w5 ⟨rfl, aP⟩; (try clear e8 e9 j0 j6 j7); obtain ⟨c0, e8, e9, j0, j6, j7⟩ := c0.zc5 aP; (try clear o8); have o8 := c0.lt; (try clear j8 j9 o0 o6 o7); obtain ⟨c1, j8, j9, o0, o6, o7⟩ := c1.zc5 aP; (try clear o9); have o9 := c1.lt; have hc := Ja hc aP))
   all_goals
    go_wp2
    go_ret
    exact ⟨rfl, Ja aQ hc⟩
theorem Jie (a b : Rat) (w : World) (ha : QS 549755813888 a) (hb : QS 549755813888 b) : Calls Tryz.prog 32 #[qV a, qV b] w (Ret (.int .i64 (Vq a b)) w) := by
 refine Jgw a b w _ _ ha hb rfl (fun h => ?_) (fun _ => Jbj a b)
 simp only [Bool.or_eq_true, Bool.and_eq_true, decide_eq_true_eq, bne_iff_ne] at h
 rcases h with h | h
 ·exact Jjq a b h.1 h.2
 exact Jjr a b h
