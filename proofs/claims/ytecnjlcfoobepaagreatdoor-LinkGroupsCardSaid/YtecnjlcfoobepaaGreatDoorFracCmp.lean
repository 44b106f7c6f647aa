import Derived.Test.YtecnjlcfoobepaaGreatDoorFracM
namespace Go.Proofs.YtecnjlcfoobepaaGreatDoor
set_option maxRecDepth 100000
set_option maxHeartbeats 2000000
open Go.RowKit
set_option linter.all false
attribute [local irreducible] lo mo Calls
set_option maxRecDepth 100000 in
set_option maxHeartbeats 2000000 in
theorem Jhx (a b : Rat) (w : World) (r : Int) (t : Bool) (ha : QS 549755813888 a) (hb : QS 549755813888 b)
  (ht : t = ((decide (a.den = 1) && decide (b.den = 1)) || (a.num.sign != b.num.sign)))
  (h1 : t = true -> Vw a.num b.num = r) (h2 : t = false -> Vw (a.num * b.den) (b.num * a.den) = r) :
  Calls Tryz.prog 29 #[qV a, qV b] w (Ret (.int .i64 r) w) := by
 have bD := ha.1
 have bE := ha.2
 have aS := hb.1
 have bF := hb.2
 have aT := fun w => Qu a w (ha.mono (by omega))
 have aU := fun w => Qu b w (hb.mono (by omega))
 have aV := fun w => Ye a w (ha.mono (by omega))
 have aW := fun w => Ye b w (hb.mono (by omega))
 have aN := fun w => Kg a w (ha.mono (by omega))
 have aO := fun w => Kg b w (hb.mono (by omega))
 have aP := fun w => Vu a.num b.den w (by omega) (by omega)
 have aQ := fun w => Vu b.num a.den w (by omega) (by omega)
 have t1 := Yx a.num b.den
 have t2 := Yx b.num a.den
 rw [Int.natAbs_natCast] at t1 t2
 have aX := fun w => Jf2 a.num b.num w (by omega) (by omega)
 have aY := fun w => Jf2 (a.num * b.den) (b.num * a.den) w (by omega) (by omega)
 have HR := lh (And.intro h1 h2)
 generalize Vw a.num b.num = r1 at *
 generalize Vw (a.num * b.den) (b.num * a.den) = r2 at *
 generalize a.num * (b.den : Int) = p1 at *
 generalize b.num * (a.den : Int) = p2 at *
 clear h1 h2 t1 t2 ha hb bD bE aS bF
 unfold Jj at aN aO aP aQ
 unfold Qa at aP aQ aX aY
 unfold qV at aT aU aV aW aN aO ⊢
 generalize decide (a.den = 1) = wa at *
 generalize decide (b.den = 1) = wb at *
 generalize decide (a.num < 0) = na at *
 generalize decide (b.num < 0) = nb at *
 generalize decide (p1 < 0) = np1 at *
 generalize decide (p2 < 0) = np2 at *
 generalize a.num.sign = sa at *
 generalize b.num.sign = sb at *
 generalize qden a = ea at *
 generalize qden b = eb at *
 generalize a.num.natAbs = A at *
 generalize b.num.natAbs = B at *
 generalize p1.natAbs = P1 at *
 generalize p2.natAbs = P2 at *
 generalize a.den = da at *
 generalize b.den = db at *
 have HWA := lh aT
 have HWB := lh aU
 have HSA := lh aV
 have HSB := lh aW
 have HDA := lh aN
 have HDB := lh aO
 have HTA := lh aP
 have HTB := lh aQ
 have HC1 := lh aX
 have HC2 := lh aY
 clear aT aU aV aW aN aO aP aQ aX aY
 have HTT := lh ht
 clear ht
 obtain ⟨b0, b1, hB, hZ⟩ := bx2 w 56 #[.bool na, .int .u64 (lo A : Int), .string (mo A), .int .u64 (lo ea : Int), .string (mo ea)] 56 #[.bool nb, .int .u64 (lo B : Int), .string (mo B), .int .u64 (lo eb : Int), .string (mo eb)]
 go_enter Tryz.func29, Tryz.ntmps29
 go_upto_region 1 with fail
 generalize ((w.alloc (.cells #[.bool na, .int .u64 (lo A : Int), .string (mo A), .int .u64 (lo ea : Int), .string (mo ea)] 56)).alloc (.cells #[.bool nb, .int .u64 (lo B : Int), .string (mo B), .int .u64 (lo eb : Int), .string (mo eb)] 56)) = W at *
 go_cut [17] (fun v wc => v = .bool t /\ Below W.heap.size W wc)
 case first =>
  cases wa with
  | true =>
   cases wb with
   | true =>
    obtain rfl : t = true := by rw [HTT.out]; rfl
    obtain ⟨aC, aD, aE, aF, aG⟩ := b0.c5; have aZ := b0.lt; have c0 := b0.drew; have x9 := c0.lt; obtain ⟨aH, aI, aJ, aK, aL⟩ := b1.c5; have bA := b1.lt; have c1 := b1.drew; have y8 := c1.lt; have hc := Jf W; go_region_with (first | (go_at_call 64; refine (HWA.out _).mono ?_; rintro e w1 ⟨rfl, y9⟩; (try clear j6 j7 j8 j9 o0); obtain ⟨c0, j6, j7, j8, j9, o0⟩ := c0.zc5 y9; (try clear x9); have x9 := c0.lt; (try clear o5 s9 t7 t8 x8); obtain ⟨c1, o5, s9, t7, t8, x8⟩ := c1.zc5 y9; (try clear y8); have y8 := c1.lt; have hc := Ja hc y9) | (go_at_call 64; refine (HWB.out _).mono ?_; rintro e w2 ⟨rfl, aA⟩; (try clear j6 j7 j8 j9 o0); obtain ⟨c0, j6, j7, j8, j9, o0⟩ := c0.zc5 aA; (try clear x9); have x9 := c0.lt; (try clear o5 s9 t7 t8 x8); obtain ⟨c1, o5, s9, t7, t8, x8⟩ := c1.zc5 aA; (try clear y8); have y8 := c1.lt; have hc := Ja hc aA))
    all_goals
     go_wp2
     go_meet
     exact ⟨rfl, hc⟩
   | false =>
    obtain rfl : t = (sa != sb) := by rw [HTT.out]; simp
    obtain ⟨aC, aD, aE, aF, aG⟩ := b0.c5; have aZ := b0.lt; have c0 := b0.drew; have x9 := c0.lt; obtain ⟨aH, aI, aJ, aK, aL⟩ := b1.c5; have bA := b1.lt; have c1 := b1.drew; have y8 := c1.lt; have hc := Jf W; go_region_with (first | (go_at_call 64; refine (HWA.out _).mono ?_; rintro e w1 ⟨rfl, y9⟩; (try clear j6 j7 j8 j9 o0); obtain ⟨c0, j6, j7, j8, j9, o0⟩ := c0.zc5 y9; (try clear x9); have x9 := c0.lt; (try clear o5 s9 t7 t8 x8); obtain ⟨c1, o5, s9, t7, t8, x8⟩ := c1.zc5 y9; (try clear y8); have y8 := c1.lt; have hc := Ja hc y9) | (go_at_call 64; refine (HWB.out _).mono ?_; rintro e w2 ⟨rfl, aA⟩; (try clear j6 j7 j8 j9 o0); obtain ⟨c0, j6, j7, j8, j9, o0⟩ := c0.zc5 aA; (try clear x9); have x9 := c0.lt; (try clear o5 s9 t7 t8 x8); obtain ⟨c1, o5, s9, t7, t8, x8⟩ := c1.zc5 aA; (try clear y8); have y8 := c1.lt; have hc := Ja hc aA) | (go_at_call 49; refine (HSA.out _).mono ?_; rintro e w3 ⟨rfl, aB⟩; (try clear j6 j7 j8 j9 o0); obtain ⟨c0, j6, j7, j8, j9, o0⟩ := c0.zc5 aB; (try clear x9); have x9 := c0.lt; (try clear o5 s9 t7 t8 x8); obtain ⟨c1, o5, s9, t7, t8, x8⟩ := c1.zc5 aB; (try clear y8); have y8 := c1.lt; have hc := Ja hc aB) | (go_at_call 49; refine (HSB.out _).mono ?_; rintro e w4 ⟨rfl, aM⟩; (try clear j6 j7 j8 j9 o0); obtain ⟨c0, j6, j7, j8, j9, o0⟩ := c0.zc5 aM; (try clear x9); have x9 := c0.lt; (try clear o5 s9 t7 t8 x8); obtain ⟨c1, o5, s9, t7, t8, x8⟩ := c1.zc5 aM; (try clear y8); have y8 := c1.lt; have hc := Ja hc aM))
    all_goals
     go_wp2
     go_meet
     exact ⟨rfl, hc⟩
  | false =>
   obtain rfl : t = (sa != sb) := by rw [HTT.out]; simp
   obtain ⟨aC, aD, aE, aF, aG⟩ := b0.c5; have aZ := b0.lt; have c0 := b0.drew; have x9 := c0.lt; obtain ⟨aH, aI, aJ, aK, aL⟩ := b1.c5; have bA := b1.lt; have c1 := b1.drew; have y8 := c1.lt; have hc := Jf W; go_region_with (first | (go_at_call 64; refine (HWA.out _).mono ?_; rintro e w1 ⟨rfl, y9⟩; (try clear j6 j7 j8 j9 o0); obtain ⟨c0, j6, j7, j8, j9, o0⟩ := c0.zc5 y9; (try clear x9); have x9 := c0.lt; (try clear o5 s9 t7 t8 x8); obtain ⟨c1, o5, s9, t7, t8, x8⟩ := c1.zc5 y9; (try clear y8); have y8 := c1.lt; have hc := Ja hc y9) | (go_at_call 49; refine (HSA.out _).mono ?_; rintro e w2 ⟨rfl, aA⟩; (try clear j6 j7 j8 j9 o0); obtain ⟨c0, j6, j7, j8, j9, o0⟩ := c0.zc5 aA; (try clear x9); have x9 := c0.lt; (try clear o5 s9 t7 t8 x8); obtain ⟨c1, o5, s9, t7, t8, x8⟩ := c1.zc5 aA; (try clear y8); have y8 := c1.lt; have hc := Ja hc aA) | (go_at_call 49; refine (HSB.out _).mono ?_; rintro e w3 ⟨rfl, aB⟩; (try clear j6 j7 j8 j9 o0); obtain ⟨c0, j6, j7, j8, j9, o0⟩ := c0.zc5 aB; (try clear x9); have x9 := c0.lt; (try clear o5 s9 t7 t8 x8); obtain ⟨c1, o5, s9, t7, t8, x8⟩ := c1.zc5 aB; (try clear y8); have y8 := c1.lt; have hc := Ja hc aB))
   all_goals
    go_wp2
    go_meet
    exact ⟨rfl, hc⟩
 case rest =>
  obtain ⟨rfl, aR⟩ := hcut
  rename World => wc
  clear HWA HWB HSA HSB HTT
  have b0 := b0.below aR b0.lt
  have b1 := b1.below aR b1.lt
  have bC := Ja hB aR
  clear aR hB
  cases t with
  | true =>
   obtain rfl := HR.out.1 rfl
   obtain ⟨aC, aD, aE, aF, aG⟩ := b0.c5; obtain ⟨aH, aI, aJ, aK, aL⟩ := b1.c5
   go_wp2_with fail
   refine (HC1.out _).mono ?_
   rintro e w1 ⟨rfl, aS⟩
   go_wp2
   go_ret
   exact ⟨rfl, Ja bC aS⟩
  | false =>
   obtain rfl := HR.out.2 rfl
   go_upto_region 3 with fail
   obtain ⟨aC, aD, aE, aF, aG⟩ := b0.c5; have aZ := b0.lt; have c0 := b0.drew; have x9 := c0.lt; obtain ⟨aH, aI, aJ, aK, aL⟩ := b1.c5; have bA := b1.lt; have c1 := b1.drew; have y8 := c1.lt; have hc := Jf wc; go_region_held3 (fun w' => w'.cell? ⟨w.heap.size, 0, none⟩ = some (.bool na) /\ w'.cell? ⟨w.heap.size, 1, none⟩ = some (.int .u64 (lo A : Int)) /\ w'.cell? ⟨w.heap.size, 2, none⟩ = some (.string (mo A)) /\ w'.cell? ⟨w.heap.size, 3, none⟩ = some (.int .u64 (lo ea : Int)) /\ w'.cell? ⟨w.heap.size, 4, none⟩ = some (.string (mo ea)) /\ w'.cell? ⟨w.heap.size + 1, 0, none⟩ = some (.bool nb) /\ w'.cell? ⟨w.heap.size + 1, 1, none⟩ = some (.int .u64 (lo B : Int)) /\ w'.cell? ⟨w.heap.size + 1, 2, none⟩ = some (.string (mo B)) /\ w'.cell? ⟨w.heap.size + 1, 3, none⟩ = some (.int .u64 (lo eb : Int)) /\ w'.cell? ⟨w.heap.size + 1, 4, none⟩ = some (.string (mo eb))) (go_keep) (first | (go_at_call 67; refine (HDB.out _).mono ?_; rintro e w1 ⟨rfl, y9⟩; (try clear j6 j7 j8 j9 o0); obtain ⟨c0, j6, j7, j8, j9, o0⟩ := c0.zc5 y9; (try clear x9); have x9 := c0.lt; (try clear o5 s9 t7 t8 x8); obtain ⟨c1, o5, s9, t7, t8, x8⟩ := c1.zc5 y9; (try clear y8); have y8 := c1.lt; have hc := Ja hc y9) | (go_at_call 66; refine (HTA.out _).mono ?_; rintro e w2 ⟨rfl, aA⟩; (try clear j6 j7 j8 j9 o0); obtain ⟨c0, j6, j7, j8, j9, o0⟩ := c0.zc5 aA; (try clear x9); have x9 := c0.lt; (try clear o5 s9 t7 t8 x8); obtain ⟨c1, o5, s9, t7, t8, x8⟩ := c1.zc5 aA; (try clear y8); have y8 := c1.lt; have hc := Ja hc aA) | (go_at_call 67; refine (HDA.out _).mono ?_; rintro e w3 ⟨rfl, aB⟩; (try clear j6 j7 j8 j9 o0); obtain ⟨c0, j6, j7, j8, j9, o0⟩ := c0.zc5 aB; (try clear x9); have x9 := c0.lt; (try clear o5 s9 t7 t8 x8); obtain ⟨c1, o5, s9, t7, t8, x8⟩ := c1.zc5 aB; (try clear y8); have y8 := c1.lt; have hc := Ja hc aB) | (go_at_call 66; refine (HTB.out _).mono ?_; rintro e w4 ⟨rfl, aM⟩; (try clear j6 j7 j8 j9 o0); obtain ⟨c0, j6, j7, j8, j9, o0⟩ := c0.zc5 aM; (try clear x9); have x9 := c0.lt; (try clear o5 s9 t7 t8 x8); obtain ⟨c1, o5, s9, t7, t8, x8⟩ := c1.zc5 aM; (try clear y8); have y8 := c1.lt; have hc := Ja hc aM) | (go_at_call 65; refine (HC2.out _).mono ?_; rintro e w5 ⟨rfl, bB⟩; (try clear j6 j7 j8 j9 o0); obtain ⟨c0, j6, j7, j8, j9, o0⟩ := c0.zc5 bB; (try clear x9); have x9 := c0.lt; (try clear o5 s9 t7 t8 x8); obtain ⟨c1, o5, s9, t7, t8, x8⟩ := c1.zc5 bB; (try clear y8); have y8 := c1.lt; have hc := Ja hc bB))
   all_goals
    go_wp2
    go_ret
    exact ⟨rfl, Ja bC hc⟩
theorem Vf (a b : Rat) (w : World) (ha : QS 549755813888 a) (hb : QS 549755813888 b) : Calls Tryz.prog 29 #[qV a, qV b] w (Ret (.int .i64 (Yw a b)) w) := by
 refine Jhx a b w _ _ ha hb rfl (fun h => ?_) (fun _ => Jbz a b)
 simp only [Bool.or_eq_true, Bool.and_eq_true, decide_eq_true_eq, bne_iff_ne] at h
 rcases h with h | h
 ·exact Jlr a b h.1 h.2
 exact Jls a b h
