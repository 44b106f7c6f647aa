import Derived.Test.YtecnjlcfoobepaaGreatDoorRefInt
namespace Go.Proofs.YtecnjlcfoobepaaGreatDoor
set_option maxRecDepth 100000
set_option maxHeartbeats 1000000
open Go.RowKit
set_option linter.all false
theorem Jpl (a b : Rat) : Rat.divInt (a.num * (b.den : Int) + b.num * (a.den : Int)) ((a.den * b.den : Nat) : Int) = a + b := by
 rw [Rat.add_def', Rat.divInt_ofNat]
theorem Jpj (a b : Rat) : Rat.divInt (a.num * b.num) ((a.den * b.den : Nat) : Int) = a * b := by
 rw [Rat.mul_def', Rat.divInt_ofNat]
theorem Joo (a b : Rat) : (a.num * (b.den : Int) - b.num * (a.den : Int)).sign = Yw a b := by
 have h1 := Rat.lt_iff a b
 have h2 := Rat.lt_iff b a
 unfold Yw
 by_cases h : a < b
 ·rw [if_pos h]
  have := h1.1 h
  exact Int.sign_eq_neg_one_of_neg (by omega)
 rw [if_neg h]
 have g1 : ¬ (a.num * (b.den : Int) < b.num * (a.den : Int)) := fun h' => h (h1.2 h')
 by_cases h' : b < a
 ·rw [if_pos h']
  have := h2.1 h'
  exact Int.sign_eq_one_of_pos (by omega)
 rw [if_neg h']
 have g2 : ¬ (b.num * (a.den : Int) < a.num * (b.den : Int)) := fun bQ => h' (h2.2 bQ)
 have : a.num * (b.den : Int) - b.num * (a.den : Int) = 0 := by omega
 rw [this]
 rfl
theorem QS.blens {m : Nat} {q : Rat} (h : QS m q) (hm : m <= 274877906944) : Je q.num.natAbs <= 274877906944 /\ Je ((q.den : Int)).natAbs <= 274877906944 := ⟨nt h.1 hm, by rw [Int.natAbs_natCast]; exact nt h.2 hm⟩
theorem Zp {x y : Int} {m n : Nat} (hx : Je x.natAbs <= m) (hy : Je y.natAbs <= n) : Je (x * y).natAbs <= m + n := by
 rw [Int.natAbs_mul]
 have := Ub x.natAbs y.natAbs
 omega
theorem Joa {x y : Int} {m : Nat} (hx : Je x.natAbs <= m) (hy : Je y.natAbs <= m) : Je (x + y).natAbs <= m + 1 := by
 have h1 := Qb (Int.natAbs_add_le x y)
 have h2 := Jfe x.natAbs y.natAbs
 omega
theorem Ja9 (q : Rat) (B : Nat) (V : Value) (w : World) (h : IsQ w B V q) (aK : B <= w.heap.size) : Calls Tryz.prog 93 #[V] w (Ja1 (q.den : Int) w) := by
 obtain ⟨n0, A0, l0, c0c, A9, l9, c9c, rfl⟩ := h.shape
 have H := lh h.parts.2.2
 clear h
 obtain ⟨b0, b1, hB, hZ⟩ := bx2 w 70 #[.bool n0, .slice A0 l0 c0c, .slice A9 l9 c9c] 68 #[.bool false, .slice none 0 0]
 go_enter Tryz.func93, Tryz.ntmps93
 go_wp2_with fail
 generalize ((w.alloc (.cells #[.bool n0, .slice A0 l0 c0c, .slice A9 l9 c9c] 70)).alloc (.cells #[.bool false, .slice none 0 0] 68)) = W at *
 have aG : B <= W.heap.size := nt aK hB.size
 have aN : ∀ w', Below W.heap.size W w' -> Calls Tryz.prog 115 #[.bool false, .slice A9 l9 c9c] w' (Ja1 (q.den : Int) w') := fun w' hb => Yi false q.den B _ w' ((H.out.next aK hB).next aG hb) (nt aG hb.size)
 have HMK := lh aN
 clear aN
 have c0 := b0; have t7 := c0.lt; obtain ⟨j6, j7, j8⟩ := c0.c3; have c1 := b1; have t8 := c1.lt; have hc := Below.refl W.heap.size W; go_wp2_with fail; refine (HMK.out _ hc).mono ?_; rintro e w1 ⟨v1, rfl, s9, aB⟩; obtain ⟨g1, A1, l1, c1c, aS⟩ := s9.shape; subst aS; (try clear j6 j7 j8); obtain ⟨c0, j6, j7, j8⟩ := c0.zc3 aB; (try clear t7); have t7 := c0.lt; have c1 := c1.below aB c1.lt; (try clear t8); have t8 := c1.lt; have hc := Ja hc aB; obtain ⟨j9, o0, bR, bS, bE, bF⟩ := c1.f2
 go_wp2
 refine bodyPost_ret (v := .agg #[.bool g1, .slice A1 l1 c1c]) (by simp [results, Tryz.results93, go_sem, bE, bF]) rfl ?_
 exact Zd hB hc s9 c1 (by omega)
theorem Jox (q : Rat) (B : Nat) (V : Value) (w : World) (h : IsQ w B V q) (aK : B <= w.heap.size) : Calls Tryz.prog 56 #[V] w (Ret (.int .i64 q.num.sign) w) := by
 obtain ⟨n0, A0, l0, c0c, A9, l9, c9c, rfl⟩ := h.shape
 have H := lh h.num
 clear h
 obtain ⟨b0, hB, hZ⟩ := bx1 w 70 #[.bool n0, .slice A0 l0 c0c, .slice A9 l9 c9c]
 go_enter Tryz.func56, Tryz.ntmps56
 go_wp2_with fail
 generalize (w.alloc (.cells #[.bool n0, .slice A0 l0 c0c, .slice A9 l9 c9c] 70)) = W at *
 have hs := Jdi q.num B _ W (H.out.next aK hB)
 generalize q.num.sign = z at *
 have HS := lh hs
 clear hs H
 obtain ⟨aH, aI, aJ⟩ := b0.c3
 refine HS.out.mono ?_
 rintro e w1 ⟨rfl, aB⟩
 go_wp2
 go_ret
 exact ⟨rfl, Ja hB aB⟩
theorem Jhd (a b : Rat) (B : Nat) (V1 V2 : Value) (w : World) (h1 : IsQ w B V1 a) (h2 : IsQ w B V2 b) (aK : B <= w.heap.size) (ha : QS 68719476736 a) (hb : QS 68719476736 b) :
  Calls Tryz.prog 95 #[V1, V2] w (Vz (a + b) w) := by
 obtain ⟨n0, A0, l0, c0c, A0', l0', c0c', rfl⟩ := h1.shape
 obtain ⟨n9, A9, l9, c9c, A9', l9', c9c', rfl⟩ := h2.shape
 have H1 := lh h1
 have H2 := lh h2
 obtain ⟨s1, s2⟩ := ha.blens (by omega)
 obtain ⟨s3, s4⟩ := hb.blens (by omega)
 have s5 : Je (a.num * (b.den : Int)).natAbs <= 274877906944 := nt (Zp ha.1 (by rw [Int.natAbs_natCast]; exact hb.2)) (by omega)
 have s6 : Je (b.num * (a.den : Int)).natAbs <= 274877906944 := nt (Zp hb.1 (by rw [Int.natAbs_natCast]; exact ha.2)) (by omega)
 have s7 : (Jc a.den).length <= 34359738368 := Yk (by rw [Int.natAbs_natCast] at s2; exact s2) (by omega)
 have s8 : (Jc b.den).length <= 34359738368 := Yk (by rw [Int.natAbs_natCast] at s4; exact s4) (by omega)
 have aN : ∀ w' V V', IsI w' w'.heap.size V (a.num * (b.den : Int) + b.num * (a.den : Int)) -> IsI w' w'.heap.size V' ((a.den * b.den : Nat) : Int) -> Calls Tryz.prog 76 #[V, V'] w' (Vz (a + b) w') := fun w' V V' g1 g2 => by
  have := Jca _ _ _ V V' w' g1 g2 zd (Yk (nt (Joa (m := 137438953472) (nt (Zp ha.1 (by rw [Int.natAbs_natCast]; exact hb.2)) (by omega)) (nt (Zp hb.1 (by rw [Int.natAbs_natCast]; exact ha.2)) (by omega))) (by omega)) (by omega))
   (Yk (by rw [Int.natAbs_natCast]; exact nt (Ub _ _) (by have := ha.2; have := hb.2; omega)) (by omega)) (by have h1 := a.den_nz; have h2 := b.den_nz; have := Nat.mul_ne_zero h1 h2; omega)
  rw [Jpl] at this
  exact this
 have HMK := lh aN
 clear aN h1 h2 ha hb
 obtain ⟨N1, bT⟩ : ∃ N1, a.num = N1 := ⟨_, rfl⟩
 obtain ⟨N2, bU⟩ : ∃ N2, b.num = N2 := ⟨_, rfl⟩
 obtain ⟨b0, b1, b2, hB, hZ⟩ := bx3 w 70 #[.bool n0, .slice A0 l0 c0c, .slice A0' l0' c0c'] 70 #[.bool n9, .slice A9 l9 c9c, .slice A9' l9' c9c'] 70 #[.bool false, .slice none 0 0, .slice none 0 0]
 have ne1 := neA w.heap.size
 have ne2 := neC w.heap.size
 have ne3 := neB w.heap.size
 have ne4 := neD w.heap.size
 clear bT bU N1 N2
 go_enter Tryz.func95, Tryz.ntmps95
 go_upto_region 1 with fail
 generalize (((w.alloc (.cells #[.bool n0, .slice A0 l0 c0c, .slice A0' l0' c0c'] 70)).alloc (.cells #[.bool n9, .slice A9 l9 c9c, .slice A9' l9' c9c'] 70)).alloc (.cells #[.bool false, .slice none 0 0, .slice none 0 0] 70)) = W at *
 have aG : B <= W.heap.size := nt aK hB.size
 have G1 : Hid (∀ w', Below W.heap.size W w' -> IsQ w' w'.heap.size (.agg #[.bool n0, .slice A0 l0 c0c, .slice A0' l0' c0c']) a) := lh fun w' hb => ((H1.out.next aK hB).next aG hb).more (nt aG hb.size)
 have G2 : Hid (∀ w', Below W.heap.size W w' -> IsQ w' w'.heap.size (.agg #[.bool n9, .slice A9 l9 c9c, .slice A9' l9' c9c']) b) := lh fun w' hb => ((H2.out.next aK hB).next aG hb).more (nt aG hb.size)
 clear H1 H2
 obtain ⟨aH, aI, aJ⟩ := b0.c3; obtain ⟨aO, aP, aQ⟩ := b1.c3
 obtain ⟨aH, aI, aJ⟩ := b0.c3; have c0 := b0.drew; have t7 := c0.lt; obtain ⟨aO, aP, aQ⟩ := b1.c3; have c1 := b1.drew; have t8 := c1.lt; have c2 := b2.drew; have aC := c2.lt; have hc := Jf W; go_region_held3 (fun w' => w'.cell? ⟨w.heap.size, 0, none⟩ = some (.bool n0) /\ w'.cell? ⟨w.heap.size, 1, none⟩ = some (.slice A0 l0 c0c) /\ w'.cell? ⟨w.heap.size, 2, none⟩ = some (.slice A0' l0' c0c') /\ w'.cell? ⟨w.heap.size + 1, 0, none⟩ = some (.bool n9) /\ w'.cell? ⟨w.heap.size + 1, 1, none⟩ = some (.slice A9 l9 c9c) /\ w'.cell? ⟨w.heap.size + 1, 2, none⟩ = some (.slice A9' l9' c9c')) (go_keep) (first | (go_at_call 93; (with_reducible refine (Ja9 b _ _ _ (G2.out _ hc) zd).mono ?_); rintro e w1 ⟨v1, rfl, s9, aB⟩; obtain ⟨g1, A1, l1, c1c, aS⟩ := s9.shape; subst aS; (try clear j6 j7 j8); obtain ⟨c0, j6, j7, j8⟩ := c0.zc3 aB; (try clear t7); have t7 := c0.lt; (try clear j9 o0 o5); obtain ⟨c1, j9, o0, o5⟩ := c1.zc3 aB; (try clear t8); have t8 := c1.lt; have c2 := c2.below aB c2.lt; (try clear aC); have aC := c2.lt; have hc := Ja hc aB) | (go_at_call 92; (with_reducible refine (Zw _ _ _ _ _ _ (G1.out _ hc).num s9 zd s1 s4).mono ?_); rintro e w2 ⟨v2, rfl, x8, y8⟩; obtain ⟨g2, A2, l2, c2c, bA⟩ := x8.shape; subst bA; (try clear j6 j7 j8); obtain ⟨c0, j6, j7, j8⟩ := c0.zc3 y8; (try clear t7); have t7 := c0.lt; (try clear j9 o0 o5); obtain ⟨c1, j9, o0, o5⟩ := c1.zc3 y8; (try clear t8); have t8 := c1.lt; have c2 := c2.below y8 c2.lt; (try clear aC); have aC := c2.lt; have s9 := (s9.next zd y8).more y8.size; have hc := Ja hc y8) | (go_at_call 93; (with_reducible refine (Ja9 a _ _ _ (G1.out _ hc) zd).mono ?_); rintro e w3 ⟨v3, rfl, aA, y9⟩; obtain ⟨g3, A3, l3, c3c, bB⟩ := aA.shape; subst bB; (try clear j6 j7 j8); obtain ⟨c0, j6, j7, j8⟩ := c0.zc3 y9; (try clear t7); have t7 := c0.lt; (try clear j9 o0 o5); obtain ⟨c1, j9, o0, o5⟩ := c1.zc3 y9; (try clear t8); have t8 := c1.lt; have c2 := c2.below y9 c2.lt; (try clear aC); have aC := c2.lt; have s9 := (s9.next zd y9).more y9.size; have x8 := (x8.next zd y9).more y9.size; have hc := Ja hc y9) | (go_at_call 92; (with_reducible refine (Zw _ _ _ _ _ _ (G2.out _ hc).num aA zd s3 s2).mono ?_); rintro e w4 ⟨v4, rfl, aE, x9⟩; obtain ⟨g4, A4, l4, c4c, bC⟩ := aE.shape; subst bC; (try clear j6 j7 j8); obtain ⟨c0, j6, j7, j8⟩ := c0.zc3 x9; (try clear t7); have t7 := c0.lt; (try clear j9 o0 o5); obtain ⟨c1, j9, o0, o5⟩ := c1.zc3 x9; (try clear t8); have t8 := c1.lt; have c2 := c2.below x9 c2.lt; (try clear aC); have aC := c2.lt; have s9 := (s9.next zd x9).more x9.size; have x8 := (x8.next zd x9).more x9.size; have aA := (aA.next zd x9).more x9.size; have hc := Ja hc x9) | (go_at_call 129; (with_reducible refine (Jeh _ _ _ _ _ _ x8 aE zd s5 s6).mono ?_); rintro e w5 ⟨v5, rfl, aR, aD⟩; obtain ⟨g5, A5, l5, c5c, bV⟩ := aR.shape; subst bV; (try clear j6 j7 j8); obtain ⟨c0, j6, j7, j8⟩ := c0.zc3 aD; (try clear t7); have t7 := c0.lt; (try clear j9 o0 o5); obtain ⟨c1, j9, o0, o5⟩ := c1.zc3 aD; (try clear t8); have t8 := c1.lt; have c2 := c2.below aD c2.lt; (try clear aC); have aC := c2.lt; have s9 := (s9.next zd aD).more aD.size; have x8 := (x8.next zd aD).more aD.size; have aA := (aA.next zd aD).more aD.size; have aE := (aE.next zd aD).more aD.size; have hc := Ja hc aD) | (go_at_call 127; (with_reducible refine (Jbu _ _ _ _ _ _ (G1.out _ hc).parts.2.2 (G2.out _ hc).parts.2.2 zd s7 s8).mono ?_); rintro e w6 ⟨v6, rfl, aZ, aM⟩; obtain ⟨A6, l6, c6c, bW⟩ := aZ.form; subst bW; (try clear j6 j7 j8); obtain ⟨c0, j6, j7, j8⟩ := c0.zc3 aM; (try clear t7); have t7 := c0.lt; (try clear j9 o0 o5); obtain ⟨c1, j9, o0, o5⟩ := c1.zc3 aM; (try clear t8); have t8 := c1.lt; have c2 := c2.below aM c2.lt; (try clear aC); have aC := c2.lt; have s9 := (s9.next zd aM).more aM.size; have x8 := (x8.next zd aM).more aM.size; have aA := (aA.next zd aM).more aM.size; have aE := (aE.next zd aM).more aM.size; have aR := (aR.next zd aM).more aM.size; have hc := Ja hc aM) | (go_at_call 115; (with_reducible refine (Yi false _ _ _ _ aZ zd).mono ?_); rintro e w7 ⟨v7, rfl, bD, aL⟩; obtain ⟨g7, A7, l7, c7c, bX⟩ := bD.shape; subst bX; (try clear j6 j7 j8); obtain ⟨c0, j6, j7, j8⟩ := c0.zc3 aL; (try clear t7); have t7 := c0.lt; (try clear j9 o0 o5); obtain ⟨c1, j9, o0, o5⟩ := c1.zc3 aL; (try clear t8); have t8 := c1.lt; have c2 := c2.below aL c2.lt; (try clear aC); have aC := c2.lt; have s9 := (s9.next zd aL).more aL.size; have x8 := (x8.next zd aL).more aL.size; have aA := (aA.next zd aL).more aL.size; have aE := (aE.next zd aL).more aL.size; have aR := (aR.next zd aL).more aL.size; have aZ := (aZ.next zd aL).more aL.size; have hc := Ja hc aL) | (go_at_call 76; (with_reducible refine (HMK.out _ _ _ aR bD).mono ?_); rintro e w8 ⟨v8, rfl, bP, aF⟩; obtain ⟨g8, A8, l8, c8c, A8', l8', c8c', bY⟩ := bP.shape; subst bY; (try clear j6 j7 j8); obtain ⟨c0, j6, j7, j8⟩ := c0.zc3 aF; (try clear t7); have t7 := c0.lt; (try clear j9 o0 o5); obtain ⟨c1, j9, o0, o5⟩ := c1.zc3 aF; (try clear t8); have t8 := c1.lt; have c2 := c2.below aF c2.lt; (try clear aC); have aC := c2.lt; have s9 := (s9.next zd aF).more aF.size; have x8 := (x8.next zd aF).more aF.size; have aA := (aA.next zd aF).more aF.size; have aE := (aE.next zd aF).more aF.size; have aR := (aR.next zd aF).more aF.size; have aZ := (aZ.next zd aF).more aF.size; have bD := (bD.next zd aF).more aF.size; have hc := Ja hc aF; obtain ⟨bG, bH, bI, bJ, bK, bL, aT, aU, aV⟩ := c2.f3))
 all_goals
  go_wp2
  refine bodyPost_ret (v := .agg #[.bool g8, .slice A8 l8 c8c, .slice A8' l8' c8c']) (by simp [results, Tryz.results95, go_sem, aT, aU, aV]) rfl ?_
  exact Qj hB hc bP c2 (by omega)
theorem Jq2 (a b : Rat) (B : Nat) (V1 V2 : Value) (w : World) (h1 : IsQ w B V1 a) (h2 : IsQ w B V2 b) (aK : B <= w.heap.size) (ha : QS 68719476736 a) (hb : QS 68719476736 b) :
  Calls Tryz.prog 96 #[V1, V2] w (Vz (a * b) w) := by
 obtain ⟨n0, A0, l0, c0c, A0', l0', c0c', rfl⟩ := h1.shape
 obtain ⟨n9, A9, l9, c9c, A9', l9', c9c', rfl⟩ := h2.shape
 have H1 := lh h1
 have H2 := lh h2
 obtain ⟨s1, s2⟩ := ha.blens (by omega)
 obtain ⟨s3, s4⟩ := hb.blens (by omega)
 have s7 : (Jc a.den).length <= 34359738368 := Yk (by rw [Int.natAbs_natCast] at s2; exact s2) (by omega)
 have s8 : (Jc b.den).length <= 34359738368 := Yk (by rw [Int.natAbs_natCast] at s4; exact s4) (by omega)
 have aN : ∀ w' V V', IsI w' w'.heap.size V (a.num * b.num) -> IsI w' w'.heap.size V' ((a.den * b.den : Nat) : Int) -> Calls Tryz.prog 76 #[V, V'] w' (Vz (a * b) w') := fun w' V V' g1 g2 => by
  have := Jca _ _ _ V V' w' g1 g2 zd (Yk (nt (Zp ha.1 hb.1) (by omega)) (by omega))
   (Yk (by rw [Int.natAbs_natCast]; exact nt (Ub _ _) (by have := ha.2; have := hb.2; omega)) (by omega)) (by have h1 := a.den_nz; have h2 := b.den_nz; have := Nat.mul_ne_zero h1 h2; omega)
  rw [Jpj] at this
  exact this
 have HMK := lh aN
 clear aN h1 h2 ha hb
 obtain ⟨b0, b1, b2, hB, hZ⟩ := bx3 w 70 #[.bool n0, .slice A0 l0 c0c, .slice A0' l0' c0c'] 70 #[.bool n9, .slice A9 l9 c9c, .slice A9' l9' c9c'] 70 #[.bool false, .slice none 0 0, .slice none 0 0]
 have ne1 := neA w.heap.size
 have ne2 := neC w.heap.size
 have ne3 := neB w.heap.size
 have ne4 := neD w.heap.size
 go_enter Tryz.func96, Tryz.ntmps96
 go_upto_region 1 with fail
 generalize (((w.alloc (.cells #[.bool n0, .slice A0 l0 c0c, .slice A0' l0' c0c'] 70)).alloc (.cells #[.bool n9, .slice A9 l9 c9c, .slice A9' l9' c9c'] 70)).alloc (.cells #[.bool false, .slice none 0 0, .slice none 0 0] 70)) = W at *
 have aG : B <= W.heap.size := nt aK hB.size
 have G1 : Hid (∀ w', Below W.heap.size W w' -> IsQ w' w'.heap.size (.agg #[.bool n0, .slice A0 l0 c0c, .slice A0' l0' c0c']) a) := lh fun w' hb => ((H1.out.next aK hB).next aG hb).more (nt aG hb.size)
 have G2 : Hid (∀ w', Below W.heap.size W w' -> IsQ w' w'.heap.size (.agg #[.bool n9, .slice A9 l9 c9c, .slice A9' l9' c9c']) b) := lh fun w' hb => ((H2.out.next aK hB).next aG hb).more (nt aG hb.size)
 clear H1 H2
 obtain ⟨aH, aI, aJ⟩ := b0.c3; obtain ⟨aO, aP, aQ⟩ := b1.c3
 obtain ⟨aH, aI, aJ⟩ := b0.c3; have c0 := b0.drew; have t7 := c0.lt; obtain ⟨aO, aP, aQ⟩ := b1.c3; have c1 := b1.drew; have t8 := c1.lt; have c2 := b2.drew; have aC := c2.lt; have hc := Jf W; go_region_held3 (fun w' => w'.cell? ⟨w.heap.size, 0, none⟩ = some (.bool n0) /\ w'.cell? ⟨w.heap.size, 1, none⟩ = some (.slice A0 l0 c0c) /\ w'.cell? ⟨w.heap.size, 2, none⟩ = some (.slice A0' l0' c0c') /\ w'.cell? ⟨w.heap.size + 1, 0, none⟩ = some (.bool n9) /\ w'.cell? ⟨w.heap.size + 1, 1, none⟩ = some (.slice A9 l9 c9c) /\ w'.cell? ⟨w.heap.size + 1, 2, none⟩ = some (.slice A9' l9' c9c')) (go_keep) (first | (go_at_call 92; (with_reducible refine (Zw _ _ _ _ _ _ (G1.out _ hc).num (G2.out _ hc).num zd s1 s3).mono ?_); rintro e w1 ⟨v1, rfl, s9, aB⟩; obtain ⟨g1, A1, l1, c1c, aS⟩ := s9.shape; subst aS; (try clear j6 j7 j8); obtain ⟨c0, j6, j7, j8⟩ := c0.zc3 aB; (try clear t7); have t7 := c0.lt; (try clear j9 o0 o5); obtain ⟨c1, j9, o0, o5⟩ := c1.zc3 aB; (try clear t8); have t8 := c1.lt; have c2 := c2.below aB c2.lt; (try clear aC); have aC := c2.lt; have hc := Ja hc aB) | (go_at_call 127; (with_reducible refine (Jbu _ _ _ _ _ _ (G1.out _ hc).parts.2.2 (G2.out _ hc).parts.2.2 zd s7 s8).mono ?_); rintro e w2 ⟨v2, rfl, x8, y8⟩; obtain ⟨A2, l2, c2c, bA⟩ := x8.form; subst bA; (try clear j6 j7 j8); obtain ⟨c0, j6, j7, j8⟩ := c0.zc3 y8; (try clear t7); have t7 := c0.lt; (try clear j9 o0 o5); obtain ⟨c1, j9, o0, o5⟩ := c1.zc3 y8; (try clear t8); have t8 := c1.lt; have c2 := c2.below y8 c2.lt; (try clear aC); have aC := c2.lt; have s9 := (s9.next zd y8).more y8.size; have hc := Ja hc y8) | (go_at_call 115; (with_reducible refine (Yi false _ _ _ _ x8 zd).mono ?_); rintro e w3 ⟨v3, rfl, aA, y9⟩; obtain ⟨g3, A3, l3, c3c, bB⟩ := aA.shape; subst bB; (try clear j6 j7 j8); obtain ⟨c0, j6, j7, j8⟩ := c0.zc3 y9; (try clear t7); have t7 := c0.lt; (try clear j9 o0 o5); obtain ⟨c1, j9, o0, o5⟩ := c1.zc3 y9; (try clear t8); have t8 := c1.lt; have c2 := c2.below y9 c2.lt; (try clear aC); have aC := c2.lt; have s9 := (s9.next zd y9).more y9.size; have x8 := (x8.next zd y9).more y9.size; have hc := Ja hc y9) | (go_at_call 76; (with_reducible refine (HMK.out _ _ _ s9 aA).mono ?_); rintro e w4 ⟨v4, rfl, aE, x9⟩; obtain ⟨g4, A4, l4, c4c, A4', l4', c4c', bC⟩ := aE.shape; subst bC; (try clear j6 j7 j8); obtain ⟨c0, j6, j7, j8⟩ := c0.zc3 x9; (try clear t7); have t7 := c0.lt; (try clear j9 o0 o5); obtain ⟨c1, j9, o0, o5⟩ := c1.zc3 x9; (try clear t8); have t8 := c1.lt; have c2 := c2.below x9 c2.lt; (try clear aC); have aC := c2.lt; have s9 := (s9.next zd x9).more x9.size; have x8 := (x8.next zd x9).more x9.size; have aA := (aA.next zd x9).more x9.size; have hc := Ja hc x9; obtain ⟨bG, bH, bI, bJ, bK, bL, aT, aU, aV⟩ := c2.f3))
 all_goals
  go_wp2
  refine bodyPost_ret (v := .agg #[.bool g4, .slice A4 l4 c4c, .slice A4' l4' c4c']) (by simp [results, Tryz.results96, go_sem, aT, aU, aV]) rfl ?_
  exact Qj hB hc aE c2 (by omega)
theorem Jcb (a b : Rat) (B : Nat) (V1 V2 : Value) (w : World) (h1 : IsQ w B V1 a) (h2 : IsQ w B V2 b) (aK : B <= w.heap.size) (ha : QS 68719476736 a) (hb : QS 68719476736 b) :
  Calls Tryz.prog 57 #[V1, V2] w (Ret (.int .i64 (Yw a b)) w) := by
 obtain ⟨n0, A0, l0, c0c, A0', l0', c0c', rfl⟩ := h1.shape
 obtain ⟨n9, A9, l9, c9c, A9', l9', c9c', rfl⟩ := h2.shape
 have H1 := lh h1
 have H2 := lh h2
 obtain ⟨s1, s2⟩ := ha.blens (by omega)
 obtain ⟨s3, s4⟩ := hb.blens (by omega)
 have s5 : Je (a.num * (b.den : Int)).natAbs <= 274877906944 := nt (Zp ha.1 (by rw [Int.natAbs_natCast]; exact hb.2)) (by omega)
 have s6 : Je (b.num * (a.den : Int)).natAbs <= 274877906944 := nt (Zp hb.1 (by rw [Int.natAbs_natCast]; exact ha.2)) (by omega)
 have aN : ∀ w' V V', IsI w' w'.heap.size V (a.num * (b.den : Int)) -> IsI w' w'.heap.size V' (b.num * (a.den : Int)) -> Calls Tryz.prog 91 #[V, V'] w' (Ret (.int .i64 (Yw a b)) w') := fun w' V V' g1 g2 => by
  have := Jkr _ _ _ V V' w' g1 g2 zd s5 s6
  rw [Joo] at this
  exact this
 have HMK := lh aN
 clear aN h1 h2 ha hb
 generalize Yw a b = cv at *
 obtain ⟨b0, b1, hB, hZ⟩ := bx2 w 70 #[.bool n0, .slice A0 l0 c0c, .slice A0' l0' c0c'] 70 #[.bool n9, .slice A9 l9 c9c, .slice A9' l9' c9c']
 go_enter Tryz.func57, Tryz.ntmps57
 go_upto_region 1 with fail
 generalize ((w.alloc (.cells #[.bool n0, .slice A0 l0 c0c, .slice A0' l0' c0c'] 70)).alloc (.cells #[.bool n9, .slice A9 l9 c9c, .slice A9' l9' c9c'] 70)) = W at *
 have aG : B <= W.heap.size := nt aK hB.size
 have G1 : Hid (∀ w', Below W.heap.size W w' -> IsQ w' w'.heap.size (.agg #[.bool n0, .slice A0 l0 c0c, .slice A0' l0' c0c']) a) := lh fun w' hb => ((H1.out.next aK hB).next aG hb).more (nt aG hb.size)
 have G2 : Hid (∀ w', Below W.heap.size W w' -> IsQ w' w'.heap.size (.agg #[.bool n9, .slice A9 l9 c9c, .slice A9' l9' c9c']) b) := lh fun w' hb => ((H2.out.next aK hB).next aG hb).more (nt aG hb.size)
 clear H1 H2
 obtain ⟨aH, aI, aJ⟩ := b0.c3; obtain ⟨aO, aP, aQ⟩ := b1.c3
 obtain ⟨aH, aI, aJ⟩ := b0.c3; have c0 := b0.drew; have t7 := c0.lt; obtain ⟨aO, aP, aQ⟩ := b1.c3; have c1 := b1.drew; have t8 := c1.lt; have hc := Jf W; go_region_held3 (fun w' => w'.cell? ⟨w.heap.size, 0, none⟩ = some (.bool n0) /\ w'.cell? ⟨w.heap.size, 1, none⟩ = some (.slice A0 l0 c0c) /\ w'.cell? ⟨w.heap.size, 2, none⟩ = some (.slice A0' l0' c0c') /\ w'.cell? ⟨w.heap.size + 1, 0, none⟩ = some (.bool n9) /\ w'.cell? ⟨w.heap.size + 1, 1, none⟩ = some (.slice A9 l9 c9c) /\ w'.cell? ⟨w.heap.size + 1, 2, none⟩ = some (.slice A9' l9' c9c')) (go_keep) (first | (go_at_call 93; (with_reducible refine (Ja9 b _ _ _ (G2.out _ hc) zd).mono ?_); rintro e w1 ⟨v1, rfl, s9, aB⟩; obtain ⟨g1, A1, l1, c1c, aS⟩ := s9.shape; subst aS; (try clear j6 j7 j8); obtain ⟨c0, j6, j7, j8⟩ := c0.zc3 aB; (try clear t7); have t7 := c0.lt; (try clear j9 o0 o5); obtain ⟨c1, j9, o0, o5⟩ := c1.zc3 aB; (try clear t8); have t8 := c1.lt; have hc := Ja hc aB) | (go_at_call 92; (with_reducible refine (Zw _ _ _ _ _ _ (G1.out _ hc).num s9 zd s1 s4).mono ?_); rintro e w2 ⟨v2, rfl, x8, y8⟩; obtain ⟨g2, A2, l2, c2c, bA⟩ := x8.shape; subst bA; (try clear j6 j7 j8); obtain ⟨c0, j6, j7, j8⟩ := c0.zc3 y8; (try clear t7); have t7 := c0.lt; (try clear j9 o0 o5); obtain ⟨c1, j9, o0, o5⟩ := c1.zc3 y8; (try clear t8); have t8 := c1.lt; have s9 := (s9.next zd y8).more y8.size; have hc := Ja hc y8) | (go_at_call 93; (with_reducible refine (Ja9 a _ _ _ (G1.out _ hc) zd).mono ?_); rintro e w3 ⟨v3, rfl, aA, y9⟩; obtain ⟨g3, A3, l3, c3c, bB⟩ := aA.shape; subst bB; (try clear j6 j7 j8); obtain ⟨c0, j6, j7, j8⟩ := c0.zc3 y9; (try clear t7); have t7 := c0.lt; (try clear j9 o0 o5); obtain ⟨c1, j9, o0, o5⟩ := c1.zc3 y9; (try clear t8); have t8 := c1.lt; have s9 := (s9.next zd y9).more y9.size; have x8 := (x8.next zd y9).more y9.size; have hc := Ja hc y9) | (go_at_call 92; (with_reducible refine (Zw _ _ _ _ _ _ (G2.out _ hc).num aA zd s3 s2).mono ?_); rintro e w4 ⟨v4, rfl, aE, x9⟩; obtain ⟨g4, A4, l4, c4c, bC⟩ := aE.shape; subst bC; (try clear j6 j7 j8); obtain ⟨c0, j6, j7, j8⟩ := c0.zc3 x9; (try clear t7); have t7 := c0.lt; (try clear j9 o0 o5); obtain ⟨c1, j9, o0, o5⟩ := c1.zc3 x9; (try clear t8); have t8 := c1.lt; have s9 := (s9.next zd x9).more x9.size; have x8 := (x8.next zd x9).more x9.size; have aA := (aA.next zd x9).more x9.size; have hc := Ja hc x9) | (go_at_call 91; (with_reducible refine (HMK.out _ _ _ x8 aE).mono ?_); rintro e w5 ⟨rfl, aD⟩; (try clear j6 j7 j8); obtain ⟨c0, j6, j7, j8⟩ := c0.zc3 aD; (try clear t7); have t7 := c0.lt; (try clear j9 o0 o5); obtain ⟨c1, j9, o0, o5⟩ := c1.zc3 aD; (try clear t8); have t8 := c1.lt; have s9 := (s9.next zd aD).more aD.size; have x8 := (x8.next zd aD).more aD.size; have aA := (aA.next zd aD).more aD.size; have aE := (aE.next zd aD).more aD.size; have hc := Ja hc aD))
 all_goals
  go_wp2
  go_ret
  exact ⟨rfl, Ja hB hc⟩
theorem Jcv (z : Int) (w : World) (h0 : -9223372036854775808 <= z) (h1 : z <= 9223372036854775807) : Calls Tryz.prog 69 #[.int .i64 z] w (Vz (z : Rat) w) := by
 have H1 := lh h0
 have H2 := lh h1
 clear h0 h1
 obtain ⟨b0, hB, hZ⟩ := bx1 w 70 #[.bool false, .slice none 0 0, .slice none 0 0]
 go_enter Tryz.func69, Tryz.ntmps69
 go_wp2_with fail
 generalize (w.alloc (.cells #[.bool false, .slice none 0 0, .slice none 0 0] 70)) = W at *
 refine (Jcw z W H1.out H2.out).mono ?_
 rintro e w1 ⟨v1, rfl, s9, aB⟩
 obtain ⟨g1, A1, l1, c1c, rfl⟩ := s9.shape
 have b0 := b0.below aB b0.lt
 go_wp2_with fail
 refine (Ja8 1 w1 (by omega)).mono ?_
 rintro e w2 ⟨v2, rfl, x8, y8⟩
 obtain ⟨A2, l2, c2c, rfl⟩ := x8.form
 have s9 := (s9.next zd y8).more y8.size
 have b0 := b0.below y8 b0.lt
 obtain ⟨aH, aI, aJ, bM, bN, bO, aW, aX, aY⟩ := b0.f3
 go_wp2
 refine bodyPost_ret (v := .agg #[.bool g1, .slice A1 l1 c1c, .slice A2 l2 c2c]) (by simp [results, Tryz.results69, go_sem, aW, aX, aY]) rfl ?_
 exact Qj hB (Ja aB y8) (IsQ.mk (q := (z : Rat)) s9 x8) b0 (by omega)
theorem Jir (n d : Int) (w : World) (h0 : -9223372036854775808 <= n) (h1 : n <= 9223372036854775807) (h2 : -9223372036854775808 <= d) (h3 : d <= 9223372036854775807) (hd : d ≠ 0) : Calls Tryz.prog 36 #[.int .i64 n, .int .i64 d] w (Vz (Rat.divInt n d) w) := by
 have s1 : (Jc n.natAbs).length <= 17179869184 := nt (Vr _ 2 (Zz _ (by omega))) (by omega)
 have s2 : (Jc d.natAbs).length <= 17179869184 := nt (Vr _ 2 (Zz _ (by omega))) (by omega)
 have H1 := lh h0
 have H2 := lh h1
 have H3 := lh h2
 have H4 := lh h3
 have HD := lh hd
 clear h0 h1 h2 h3 hd
 obtain ⟨b0, hB, hZ⟩ := bx1 w 70 #[.bool false, .slice none 0 0, .slice none 0 0]
 go_enter Tryz.func36, Tryz.ntmps36
 go_wp2_with fail
 generalize (w.alloc (.cells #[.bool false, .slice none 0 0, .slice none 0 0] 70)) = W at *
 refine (Jcw n W H1.out H2.out).mono ?_
 rintro e w1 ⟨v1, rfl, s9, aB⟩
 obtain ⟨g1, A1, l1, c1c, rfl⟩ := s9.shape
 have b0 := b0.below aB b0.lt
 go_wp2_with fail
 refine (Jcw d w1 H3.out H4.out).mono ?_
 rintro e w2 ⟨v2, rfl, x8, y8⟩
 obtain ⟨g2, A2, l2, c2c, rfl⟩ := x8.shape
 have s9 := (s9.next zd y8).more y8.size
 have b0 := b0.below y8 b0.lt
 go_wp2_with fail
 refine (Jca n d _ _ _ w2 s9 x8 zd s1 s2 HD.out).mono ?_
 rintro e w3 ⟨v3, rfl, aA, y9⟩
 obtain ⟨g3, A3, l3, c3c, A3', l3', c3c', rfl⟩ := aA.shape
 have b0 := b0.below y9 b0.lt
 obtain ⟨aH, aI, aJ, bM, bN, bO, aW, aX, aY⟩ := b0.f3
 go_wp2
 refine bodyPost_ret (v := .agg #[.bool g3, .slice A3 l3 c3c, .slice A3' l3' c3c']) (by simp [results, Tryz.results36, go_sem, aW, aX, aY]) rfl ?_
 exact Qj hB (Ja (Ja aB y8) y9) aA b0 (by omega)
