import Derived.Test.YtecnjlcfoobepaaGreatDoorRefQ
namespace Go.Proofs.YtecnjlcfoobepaaGreatDoor
set_option maxRecDepth 100000
set_option maxHeartbeats 1000000
open Go.RowKit
set_option linter.all false
theorem Jq1 (q : Rat) (B : Nat) (V : Value) (w : World) (h : IsQ w B V q) (aB : B <= w.heap.size) : Calls Tryz.prog 128 #[V] w (Vz (-q) w) := by
 obtain ⟨n0, A0, l0, c0c, A9, l9, c9c, rfl⟩ := h.shape
 have H := lh h
 have H9 := lh h.parts.2.2
 have E1 := lh (Rat.neg_num q)
 have E2 := lh (Rat.neg_den q)
 clear h
 obtain ⟨b0, b1, hB, hZ⟩ := bx2 w 70 #[.bool n0, .slice A0 l0 c0c, .slice A9 l9 c9c] 70 #[.bool false, .slice none 0 0, .slice none 0 0]
 have ne1 := neE w.heap.size
 have ne2 := neF w.heap.size
 go_enter Tryz.func128, Tryz.ntmps128
 go_upto_region 1 with fail
 generalize ((w.alloc (.cells #[.bool n0, .slice A0 l0 c0c, .slice A9 l9 c9c] 70)).alloc (.cells #[.bool false, .slice none 0 0, .slice none 0 0] 70)) = W at *
 have x9 : B <= W.heap.size := nt aB hB.size
 have aP : ∀ w', Below W.heap.size W w' -> Calls Tryz.prog 158 #[.agg #[.bool n0, .slice A0 l0 c0c]] w' (Ja1 (-q.num) w') := fun w' hb => Jeg q.num B _ w' ((H.out.next aB hB).next x9 hb).num (nt x9 hb.size)
 have HMK := lh aP
 have G9 : Hid (∀ w', Below W.heap.size W w' -> IsN w' w'.heap.size (.slice A9 l9 c9c) q.den) := lh fun w' hb => ((H9.out.next aB hB).next x9 hb).more (nt x9 hb.size)
 clear aP H H9
 obtain ⟨aC, aD, aE⟩ := b0.c3
 obtain ⟨aC, aD, aE⟩ := b0.c3; have c0 := b0.drew; have s9 := c0.lt; have c1 := b1.drew; have t7 := c1.lt; have hc := Jf W; go_region_held3 (fun w' => w'.cell? ⟨w.heap.size, 0, none⟩ = some (.bool n0) /\ w'.cell? ⟨w.heap.size, 1, none⟩ = some (.slice A0 l0 c0c) /\ w'.cell? ⟨w.heap.size, 2, none⟩ = some (.slice A9 l9 c9c)) (go_keep) (first | (go_at_call 158; (with_reducible refine (HMK.out _ hc).mono ?_); rintro e w1 ⟨v1, rfl, t8, y8⟩; obtain ⟨g1, A1, l1, c1c, aQ⟩ := t8.shape; subst aQ; (try clear j6 j7 j8); obtain ⟨c0, j6, j7, j8⟩ := c0.zc3 y8; (try clear s9); have s9 := c0.lt; have c1 := c1.below y8 c1.lt; (try clear t7); have t7 := c1.lt; have hc := Ja hc y8; obtain ⟨j9, o0, o5, bG, bH, bI, aS, aT, aU⟩ := c1.f3))
 all_goals
  go_wp2
  refine bodyPost_ret (v := .agg #[.bool g1, .slice A1 l1 c1c, .slice A9 l9 c9c]) (by simp [results, Tryz.results128, go_sem, aS, aT, aU]) rfl ?_
  refine Qj hB hc (IsQ.mk (q := -q) ?_ ?_) c1 (by omega)
  ·rw [E1.out]; exact t8
  rw [E2.out]; exact G9.out _ hc
theorem Jqz (a b : Rat) (B : Nat) (V1 V2 : Value) (w : World) (h1 : IsQ w B V1 a) (h2 : IsQ w B V2 b) (aB : B <= w.heap.size) (ha : QS 68719476736 a) (hb : QS 68719476736 b) :
  Calls Tryz.prog 94 #[V1, V2] w (Vz (a - b) w) := by
 rw [Rat.sub_eq_add_neg]
 obtain ⟨n0, A0, l0, c0c, A0', l0', c0c', rfl⟩ := h1.shape
 obtain ⟨n9, A9, l9, c9c, A9', l9', c9c', rfl⟩ := h2.shape
 have H1 := lh h1
 have H2 := lh h2
 have bC := hb.neg
 clear h1 h2
 obtain ⟨b0, b1, b2, hB, hZ⟩ := bx3 w 70 #[.bool n0, .slice A0 l0 c0c, .slice A0' l0' c0c'] 70 #[.bool n9, .slice A9 l9 c9c, .slice A9' l9' c9c'] 70 #[.bool false, .slice none 0 0, .slice none 0 0]
 have ne1 := neA w.heap.size
 have ne2 := neC w.heap.size
 have ne3 := neB w.heap.size
 have ne4 := neD w.heap.size
 go_enter Tryz.func94, Tryz.ntmps94
 go_upto_region 1 with fail
 generalize (((w.alloc (.cells #[.bool n0, .slice A0 l0 c0c, .slice A0' l0' c0c'] 70)).alloc (.cells #[.bool n9, .slice A9 l9 c9c, .slice A9' l9' c9c'] 70)).alloc (.cells #[.bool false, .slice none 0 0, .slice none 0 0] 70)) = W at *
 have x9 : B <= W.heap.size := nt aB hB.size
 have G1 : Hid (∀ w', Below W.heap.size W w' -> IsQ w' w'.heap.size (.agg #[.bool n0, .slice A0 l0 c0c, .slice A0' l0' c0c']) a) := lh fun w' hb => ((H1.out.next aB hB).next x9 hb).more (nt x9 hb.size)
 have G2 : Hid (∀ w', Below W.heap.size W w' -> IsQ w' w'.heap.size (.agg #[.bool n9, .slice A9 l9 c9c, .slice A9' l9' c9c']) b) := lh fun w' hb => ((H2.out.next aB hB).next x9 hb).more (nt x9 hb.size)
 have HA := lh ha
 have HB := lh bC
 clear H1 H2 ha hb bC
 obtain ⟨aC, aD, aE⟩ := b0.c3; obtain ⟨aI, aJ, aK⟩ := b1.c3
 obtain ⟨aC, aD, aE⟩ := b0.c3; have c0 := b0.drew; have s9 := c0.lt; obtain ⟨aI, aJ, aK⟩ := b1.c3; have c1 := b1.drew; have t7 := c1.lt; have c2 := b2.drew; have x8 := c2.lt; have hc := Jf W; go_region_held3 (fun w' => w'.cell? ⟨w.heap.size, 0, none⟩ = some (.bool n0) /\ w'.cell? ⟨w.heap.size, 1, none⟩ = some (.slice A0 l0 c0c) /\ w'.cell? ⟨w.heap.size, 2, none⟩ = some (.slice A0' l0' c0c') /\ w'.cell? ⟨w.heap.size + 1, 0, none⟩ = some (.bool n9) /\ w'.cell? ⟨w.heap.size + 1, 1, none⟩ = some (.slice A9 l9 c9c) /\ w'.cell? ⟨w.heap.size + 1, 2, none⟩ = some (.slice A9' l9' c9c')) (go_keep) (first | (go_at_call 128; (with_reducible refine (Jq1 b _ _ _ (G2.out _ hc) zd).mono ?_); rintro e w1 ⟨v1, rfl, t8, y8⟩; obtain ⟨g1, A1, l1, c1c, A1', l1', c1c', aQ⟩ := t8.shape; subst aQ; (try clear j6 j7 j8); obtain ⟨c0, j6, j7, j8⟩ := c0.zc3 y8; (try clear s9); have s9 := c0.lt; (try clear j9 o0 o5); obtain ⟨c1, j9, o0, o5⟩ := c1.zc3 y8; (try clear t7); have t7 := c1.lt; have c2 := c2.below y8 c2.lt; (try clear x8); have x8 := c2.lt; have hc := Ja hc y8) | (go_at_call 95; (with_reducible refine (Jhd a (-b) _ _ _ _ (G1.out _ hc) t8 zd HA.out HB.out).mono ?_); rintro e w2 ⟨v2, rfl, aF, y9⟩; obtain ⟨g2, A2, l2, c2c, A2', l2', c2c', aV⟩ := aF.shape; subst aV; (try clear j6 j7 j8); obtain ⟨c0, j6, j7, j8⟩ := c0.zc3 y9; (try clear s9); have s9 := c0.lt; (try clear j9 o0 o5); obtain ⟨c1, j9, o0, o5⟩ := c1.zc3 y9; (try clear t7); have t7 := c1.lt; have c2 := c2.below y9 c2.lt; (try clear x8); have x8 := c2.lt; have t8 := (t8.next zd y9).more y9.size; have hc := Ja hc y9; obtain ⟨aW, aX, aY, aZ, bA, bB, aL, aM, aN⟩ := c2.f3))
 all_goals
  go_wp2
  refine bodyPost_ret (v := .agg #[.bool g2, .slice A2 l2 c2c, .slice A2' l2' c2c']) (by simp [results, Tryz.results94, go_sem, aL, aM, aN]) rfl ?_
  exact Qj hB hc aF c2 (by omega)
theorem Jpk (a b : Rat) : Rat.divInt (a.num * (b.den : Int)) ((a.den : Int) * b.num) = a / b := by
 rw [Rat.div_def, Rat.inv_def]
 conv => rhs; rw [<- Rat.num_divInt_den a]
 rw [Rat.divInt_mul_divInt]
theorem Jo2 (a b : Rat) (B : Nat) (V1 V2 : Value) (w : World) (h1 : IsQ w B V1 a) (h2 : IsQ w B V2 b) (aB : B <= w.heap.size) (ha : QS 68719476736 a) (hb : QS 68719476736 b) (bD : b ≠ 0) :
  Calls Tryz.prog 131 #[V1, V2] w (Vz (a / b) w) := by
 have bE : b.num ≠ 0 := fun e => bD (Rat.num_eq_zero.1 e)
 obtain ⟨n0, A0, l0, c0c, A0', l0', c0c', rfl⟩ := h1.shape
 obtain ⟨n9, A9, l9, c9c, A9', l9', c9c', rfl⟩ := h2.shape
 have H1 := lh h1
 have H2 := lh h2
 obtain ⟨s1, s2⟩ := ha.blens (by omega)
 obtain ⟨s3, s4⟩ := hb.blens (by omega)
 have aP : ∀ w' V V', IsI w' w'.heap.size V (a.num * (b.den : Int)) -> IsI w' w'.heap.size V' ((a.den : Int) * b.num) -> Calls Tryz.prog 76 #[V, V'] w' (Vz (a / b) w') := fun w' V V' g1 g2 => by
  have := Jca _ _ _ V V' w' g1 g2 zd (Yk (nt (Zp ha.1 (by rw [Int.natAbs_natCast]; exact hb.2)) (by omega)) (by omega))
   (Yk (nt (Zp (by rw [Int.natAbs_natCast]; exact ha.2) hb.1) (by omega)) (by omega)) (Int.mul_ne_zero (by have := a.den_nz; omega) bE)
  rw [Jpk] at this
  exact this
 have HMK := lh aP
 clear aP h1 h2 ha hb bE bD
 obtain ⟨b0, b1, b2, hB, hZ⟩ := bx3 w 70 #[.bool n0, .slice A0 l0 c0c, .slice A0' l0' c0c'] 70 #[.bool n9, .slice A9 l9 c9c, .slice A9' l9' c9c'] 70 #[.bool false, .slice none 0 0, .slice none 0 0]
 have ne1 := neA w.heap.size
 have ne2 := neC w.heap.size
 have ne3 := neB w.heap.size
 have ne4 := neD w.heap.size
 go_enter Tryz.func131, Tryz.ntmps131
 go_upto_region 1 with fail
 generalize (((w.alloc (.cells #[.bool n0, .slice A0 l0 c0c, .slice A0' l0' c0c'] 70)).alloc (.cells #[.bool n9, .slice A9 l9 c9c, .slice A9' l9' c9c'] 70)).alloc (.cells #[.bool false, .slice none 0 0, .slice none 0 0] 70)) = W at *
 have x9 : B <= W.heap.size := nt aB hB.size
 have G1 : Hid (∀ w', Below W.heap.size W w' -> IsQ w' w'.heap.size (.agg #[.bool n0, .slice A0 l0 c0c, .slice A0' l0' c0c']) a) := lh fun w' hb => ((H1.out.next aB hB).next x9 hb).more (nt x9 hb.size)
 have G2 : Hid (∀ w', Below W.heap.size W w' -> IsQ w' w'.heap.size (.agg #[.bool n9, .slice A9 l9 c9c, .slice A9' l9' c9c']) b) := lh fun w' hb => ((H2.out.next aB hB).next x9 hb).more (nt x9 hb.size)
 clear H1 H2
 obtain ⟨aC, aD, aE⟩ := b0.c3; obtain ⟨aI, aJ, aK⟩ := b1.c3
 obtain ⟨aC, aD, aE⟩ := b0.c3; have c0 := b0.drew; have s9 := c0.lt; obtain ⟨aI, aJ, aK⟩ := b1.c3; have c1 := b1.drew; have t7 := c1.lt; have c2 := b2.drew; have x8 := c2.lt; have hc := Jf W; go_region_held3 (fun w' => w'.cell? ⟨w.heap.size, 0, none⟩ = some (.bool n0) /\ w'.cell? ⟨w.heap.size, 1, none⟩ = some (.slice A0 l0 c0c) /\ w'.cell? ⟨w.heap.size, 2, none⟩ = some (.slice A0' l0' c0c') /\ w'.cell? ⟨w.heap.size + 1, 0, none⟩ = some (.bool n9) /\ w'.cell? ⟨w.heap.size + 1, 1, none⟩ = some (.slice A9 l9 c9c) /\ w'.cell? ⟨w.heap.size + 1, 2, none⟩ = some (.slice A9' l9' c9c')) (go_keep) (first | (go_at_call 93; (with_reducible refine (Ja9 b _ _ _ (G2.out _ hc) zd).mono ?_); rintro e w1 ⟨v1, rfl, t8, y8⟩; obtain ⟨g1, A1, l1, c1c, aQ⟩ := t8.shape; subst aQ; (try clear j6 j7 j8); obtain ⟨c0, j6, j7, j8⟩ := c0.zc3 y8; (try clear s9); have s9 := c0.lt; (try clear j9 o0 o5); obtain ⟨c1, j9, o0, o5⟩ := c1.zc3 y8; (try clear t7); have t7 := c1.lt; have c2 := c2.below y8 c2.lt; (try clear x8); have x8 := c2.lt; have hc := Ja hc y8) | (go_at_call 92; (with_reducible refine (Zw _ _ _ _ _ _ (G1.out _ hc).num t8 zd s1 s4).mono ?_); rintro e w2 ⟨v2, rfl, aF, y9⟩; obtain ⟨g2, A2, l2, c2c, aV⟩ := aF.shape; subst aV; (try clear j6 j7 j8); obtain ⟨c0, j6, j7, j8⟩ := c0.zc3 y9; (try clear s9); have s9 := c0.lt; (try clear j9 o0 o5); obtain ⟨c1, j9, o0, o5⟩ := c1.zc3 y9; (try clear t7); have t7 := c1.lt; have c2 := c2.below y9 c2.lt; (try clear x8); have x8 := c2.lt; have t8 := (t8.next zd y9).more y9.size; have hc := Ja hc y9) | (go_at_call 93; (with_reducible refine (Ja9 a _ _ _ (G1.out _ hc) zd).mono ?_); rintro e w3 ⟨v3, rfl, aO, aH⟩; obtain ⟨g3, A3, l3, c3c, bJ⟩ := aO.shape; subst bJ; (try clear j6 j7 j8); obtain ⟨c0, j6, j7, j8⟩ := c0.zc3 aH; (try clear s9); have s9 := c0.lt; (try clear j9 o0 o5); obtain ⟨c1, j9, o0, o5⟩ := c1.zc3 aH; (try clear t7); have t7 := c1.lt; have c2 := c2.below aH c2.lt; (try clear x8); have x8 := c2.lt; have t8 := (t8.next zd aH).more aH.size; have aF := (aF.next zd aH).more aH.size; have hc := Ja hc aH) | (go_at_call 92; (with_reducible refine (Zw _ _ _ _ _ _ aO (G2.out _ hc).num zd s2 s3).mono ?_); rintro e w4 ⟨v4, rfl, aR, aG⟩; obtain ⟨g4, A4, l4, c4c, bK⟩ := aR.shape; subst bK; (try clear j6 j7 j8); obtain ⟨c0, j6, j7, j8⟩ := c0.zc3 aG; (try clear s9); have s9 := c0.lt; (try clear j9 o0 o5); obtain ⟨c1, j9, o0, o5⟩ := c1.zc3 aG; (try clear t7); have t7 := c1.lt; have c2 := c2.below aG c2.lt; (try clear x8); have x8 := c2.lt; have t8 := (t8.next zd aG).more aG.size; have aF := (aF.next zd aG).more aG.size; have aO := (aO.next zd aG).more aG.size; have hc := Ja hc aG) | (go_at_call 76; (with_reducible refine (HMK.out _ _ _ aF aR).mono ?_); rintro e w5 ⟨v5, rfl, bF, aA⟩; obtain ⟨g5, A5, l5, c5c, A5', l5', c5c', bL⟩ := bF.shape; subst bL; (try clear j6 j7 j8); obtain ⟨c0, j6, j7, j8⟩ := c0.zc3 aA; (try clear s9); have s9 := c0.lt; (try clear j9 o0 o5); obtain ⟨c1, j9, o0, o5⟩ := c1.zc3 aA; (try clear t7); have t7 := c1.lt; have c2 := c2.below aA c2.lt; (try clear x8); have x8 := c2.lt; have t8 := (t8.next zd aA).more aA.size; have aF := (aF.next zd aA).more aA.size; have aO := (aO.next zd aA).more aA.size; have aR := (aR.next zd aA).more aA.size; have hc := Ja hc aA; obtain ⟨aW, aX, aY, aZ, bA, bB, aL, aM, aN⟩ := c2.f3))
 all_goals
  go_wp2
  refine bodyPost_ret (v := .agg #[.bool g5, .slice A5 l5 c5c, .slice A5' l5' c5c']) (by simp [results, Tryz.results131, go_sem, aL, aM, aN]) rfl ?_
  exact Qj hB hc bF c2 (by omega)
