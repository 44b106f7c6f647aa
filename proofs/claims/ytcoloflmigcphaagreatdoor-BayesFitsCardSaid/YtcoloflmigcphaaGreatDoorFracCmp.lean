import Derived.Test.YtcoloflmigcphaaGreatDoorFracM
namespace Go.Proofs.YtcoloflmigcphaaGreatDoor
set_option maxRecDepth 100000
set_option maxHeartbeats 2000000
open Go.RowKit
set_option linter.all false
attribute [local irreducible] lo mo Calls
set_option maxRecDepth 100000 in
set_option maxHeartbeats 2000000 in
theorem Jfm (a b : Rat) (w : World) (r : Int) (t : Bool) (ha : QS 549755813888 a) (hb : QS 549755813888 b)
  (ht : t = ((decide (a.den = 1) && decide (b.den = 1)) || (a.num.sign != b.num.sign)))
  (h1 : t = true -> Uk a.num b.num = r) (h2 : t = false -> Uk (a.num * b.den) (b.num * a.den) = r) :
  Calls Tryz.prog 43 #[qV a, qV b] w (Ret (.int .i64 r) w) := by
 have aX := ha.1
 have aY := ha.2
 have aM := hb.1
 have aZ := hb.2
 have aN := fun w => Qk a w (ha.mono (by omega))
 have aO := fun w => Qk b w (hb.mono (by omega))
 have aP := fun w => Vn a w (ha.mono (by omega))
 have aQ := fun w => Vn b w (hb.mono (by omega))
 have aH := fun w => Yi a w (ha.mono (by omega))
 have aI := fun w => Yi b w (hb.mono (by omega))
 have aJ := fun w => Uj a.num b.den w (by omega) (by omega)
 have aK := fun w => Uj b.num a.den w (by omega) (by omega)
 have t1 := Zy a.num b.den
 have t2 := Zy b.num a.den
 rw [Int.natAbs_natCast] at t1 t2
 have aR := fun w => Jdw a.num b.num w (by omega) (by omega)
 have aS := fun w => Jdw (a.num * b.den) (b.num * a.den) w (by omega) (by omega)
 have HR := lh (And.intro h1 h2)
 generalize Uk a.num b.num = r1 at *
 generalize Uk (a.num * b.den) (b.num * a.den) = r2 at *
 generalize a.num * (b.den : Int) = p1 at *
 generalize b.num * (a.den : Int) = p2 at *
 clear h1 h2 t1 t2 ha hb aX aY aM aZ
 unfold Jg at aH aI aJ aK
 unfold Qj at aJ aK aR aS
 unfold qV at aN aO aP aQ aH aI ⊢
 generalize decide (a.den = 1) = wa at *
 generalize decide (b.den = 1) = wb at *
 generalize decide (a.num < 0) = na at *
 generalize decide (b.num < 0) = nb at *
 generalize decide (p1 < 0) = np1 at *
 generalize decide (p2 < 0) = np2 at *
 generalize a.num.sign = sa at *
 generalize b.num.sign = sb at *
 generalize qden a = ea at *
 generalize qden b = eb at *
 generalize a.num.natAbs = A at *
 generalize b.num.natAbs = B at *
 generalize p1.natAbs = P1 at *
 generalize p2.natAbs = P2 at *
 generalize a.den = da at *
 generalize b.den = db at *
 have HWA := lh aN
 have HWB := lh aO
 have HSA := lh aP
 have HSB := lh aQ
 have HDA := lh aH
 have HDB := lh aI
 have HTA := lh aJ
 have HTB := lh aK
 have HC1 := lh aR
 have HC2 := lh aS
 clear aN aO aP aQ aH aI aJ aK aR aS
 have HTT := lh ht
 clear ht
 obtain ⟨b0, b1, hB, hZ⟩ := bx2 w 41 #[.bool na, .int .u64 (lo A : Int), .string (mo A), .int .u64 (lo ea : Int), .string (mo ea)] 41 #[.bool nb, .int .u64 (lo B : Int), .string (mo B), .int .u64 (lo eb : Int), .string (mo eb)]
 go_enter Tryz.func43, Tryz.ntmps43
 go_upto_region 1 with fail
 generalize ((w.alloc (.cells #[.bool na, .int .u64 (lo A : Int), .string (mo A), .int .u64 (lo ea : Int), .string (mo ea)] 41)).alloc (.cells #[.bool nb, .int .u64 (lo B : Int), .string (mo B), .int .u64 (lo eb : Int), .string (mo eb)] 41)) = W at *
 go_cut [17] (fun v wc => v = .bool t /\ Below W.heap.size W wc)
 case first =>
  cases wa with
  | true =>
   cases wb with
   | true =>
    obtain rfl : t = true := by rw [HTT.out]; rfl
    obtain ⟨bF, bG, bH, y9, aA⟩ := b0.c5; have aT := b0.lt; have c0 := b0.drew; have bE := c0.lt; obtain ⟨aB, aC, aD, aE, aF⟩ := b1.c5; have aU := b1.lt; have c1 := b1.drew; have p9 := c1.lt; have hc := Jt W; go_region_with (first | ((first | (go_at_call 78; refine (HWA.out _).mono ?_; rintro e w1 ⟨rfl, bA⟩) | (go_at_call 78; refine (HWB.out _).mono ?_; rintro e w2 ⟨rfl, bA⟩)); (try clear j0 j6 j7 j8 j9); obtain ⟨c0, j0, j6, j7, j8, j9⟩ := c0.zc5 bA; (try clear bE); have bE := c0.lt; (try clear bB bC bD o0 o9); obtain ⟨c1, bB, bC, bD, o0, o9⟩ := c1.zc5 bA; (try clear p9); have p9 := c1.lt; have hc := Ja hc bA))
    all_goals
     go_wp2
     go_meet
     exact ⟨rfl, hc⟩
   | false =>
    obtain rfl : t = (sa != sb) := by rw [HTT.out]; simp
    obtain ⟨bF, bG, bH, y9, aA⟩ := b0.c5; have aT := b0.lt; have c0 := b0.drew; have bE := c0.lt; obtain ⟨aB, aC, aD, aE, aF⟩ := b1.c5; have aU := b1.lt; have c1 := b1.drew; have p9 := c1.lt; have hc := Jt W; go_region_with (first | ((first | (go_at_call 78; refine (HWA.out _).mono ?_; rintro e w1 ⟨rfl, bA⟩) | (go_at_call 78; refine (HWB.out _).mono ?_; rintro e w2 ⟨rfl, bA⟩) | (go_at_call 26; refine (HSA.out _).mono ?_; rintro e w3 ⟨rfl, bA⟩) | (go_at_call 26; refine (HSB.out _).mono ?_; rintro e w4 ⟨rfl, bA⟩)); (try clear j0 j6 j7 j8 j9); obtain ⟨c0, j0, j6, j7, j8, j9⟩ := c0.zc5 bA; (try clear bE); have bE := c0.lt; (try clear bB bC bD o0 o9); obtain ⟨c1, bB, bC, bD, o0, o9⟩ := c1.zc5 bA; (try clear p9); have p9 := c1.lt; have hc := Ja hc bA))
    all_goals
     go_wp2
     go_meet
     exact ⟨rfl, hc⟩
  | false =>
   obtain rfl : t = (sa != sb) := by rw [HTT.out]; simp
   obtain ⟨bF, bG, bH, y9, aA⟩ := b0.c5; have aT := b0.lt; have c0 := b0.drew; have bE := c0.lt; obtain ⟨aB, aC, aD, aE, aF⟩ := b1.c5; have aU := b1.lt; have c1 := b1.drew; have p9 := c1.lt; have hc := Jt W; go_region_with (first | ((first | (go_at_call 78; refine (HWA.out _).mono ?_; rintro e w1 ⟨rfl, bA⟩) | (go_at_call 26; refine (HSA.out _).mono ?_; rintro e w2 ⟨rfl, bA⟩) | (go_at_call 26; refine (HSB.out _).mono ?_; rintro e w3 ⟨rfl, bA⟩)); (try clear j0 j6 j7 j8 j9); obtain ⟨c0, j0, j6, j7, j8, j9⟩ := c0.zc5 bA; (try clear bE); have bE := c0.lt; (try clear bB bC bD o0 o9); obtain ⟨c1, bB, bC, bD, o0, o9⟩ := c1.zc5 bA; (try clear p9); have p9 := c1.lt; have hc := Ja hc bA))
   all_goals
    go_wp2
    go_meet
    exact ⟨rfl, hc⟩
 case rest =>
  obtain ⟨rfl, aL⟩ := hcut
  rename World => wc
  clear HWA HWB HSA HSB HTT
  have b0 := b0.below aL b0.lt
  have b1 := b1.below aL b1.lt
  have aW := Ja hB aL
  clear aL hB
  cases t with
  | true =>
   obtain rfl := HR.out.1 rfl
   obtain ⟨bF, bG, bH, y9, aA⟩ := b0.c5; obtain ⟨aB, aC, aD, aE, aF⟩ := b1.c5
   go_wp2_with fail
   refine (HC1.out _).mono ?_
   rintro e w1 ⟨rfl, aM⟩
   go_wp2
   go_ret
   exact ⟨rfl, Ja aW aM⟩
  | false =>
   obtain rfl := HR.out.2 rfl
   go_upto_region 3 with fail
   obtain ⟨bF, bG, bH, y9, aA⟩ := b0.c5; have aT := b0.lt; have c0 := b0.drew; have bE := c0.lt; obtain ⟨aB, aC, aD, aE, aF⟩ := b1.c5; have aU := b1.lt; have c1 := b1.drew; have p9 := c1.lt; have hc := Jt wc; go_region_held3 (fun w' => w'.cell? ⟨w.heap.size, 0, none⟩ = some (.bool na) /\ w'.cell? ⟨w.heap.size, 1, none⟩ = some (.int .u64 (lo A : Int)) /\ w'.cell? ⟨w.heap.size, 2, none⟩ = some (.string (mo A)) /\ w'.cell? ⟨w.heap.size, 3, none⟩ = some (.int .u64 (lo ea : Int)) /\ w'.cell? ⟨w.heap.size, 4, none⟩ = some (.string (mo ea)) /\ w'.cell? ⟨w.heap.size + 1, 0, none⟩ = some (.bool nb) /\ w'.cell? ⟨w.heap.size + 1, 1, none⟩ = some (.int .u64 (lo B : Int)) /\ w'.cell? ⟨w.heap.size + 1, 2, none⟩ = some (.string (mo B)) /\ w'.cell? ⟨w.heap.size + 1, 3, none⟩ = some (.int .u64 (lo eb : Int)) /\ w'.cell? ⟨w.heap.size + 1, 4, none⟩ = some (.string (mo eb))) (go_keep) (first | ((first | (go_at_call 81; refine (HDB.out _).mono ?_; rintro e w1 ⟨rfl, bA⟩) | (go_at_call 83; refine (HTA.out _).mono ?_; rintro e w2 ⟨rfl, bA⟩) | (go_at_call 81; refine (HDA.out _).mono ?_; rintro e w3 ⟨rfl, bA⟩) | (go_at_call 83; refine (HTB.out _).mono ?_; rintro e w4 ⟨rfl, bA⟩) | (go_at_call 88; refine (HC2.out _).mono ?_; rintro e w5 ⟨rfl, bA⟩)); (try clear j0 j6 j7 j8 j9); obtain ⟨c0, j0, j6, j7, j8, j9⟩ := c0.zc5 bA; (try clear bE); have bE := c0.lt; (try clear bB bC bD o0 o9); obtain ⟨c1, bB, bC, bD, o0, o9⟩ := c1.zc5 bA; (try clear p9); have p9 := c1.lt; have hc := Ja hc bA))
   all_goals
    go_wp2
    go_ret
    exact ⟨rfl, Ja aW hc⟩
theorem Jg3 (a b : Rat) (w : World) (ha : QS 549755813888 a) (hb : QS 549755813888 b) : Calls Tryz.prog 43 #[qV a, qV b] w (Ret (.int .i64 (Jc2 a b)) w) := by
 refine Jfm a b w _ _ ha hb rfl (fun h => ?_) (fun _ => Jac a b)
 simp only [Bool.or_eq_true, Bool.and_eq_true, decide_eq_true_eq, bne_iff_ne] at h
 rcases h with h | h
 ·exact Jim a b h.1 h.2
 exact Jin a b h
