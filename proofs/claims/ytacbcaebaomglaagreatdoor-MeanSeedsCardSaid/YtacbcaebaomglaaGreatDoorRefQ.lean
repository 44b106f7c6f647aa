import Derived.Test.YtacbcaebaomglaaGreatDoorRefInt
namespace Go.Proofs.YtacbcaebaomglaaGreatDoor
set_option maxRecDepth 100000
set_option maxHeartbeats 1000000
open Go.RowKit
set_option linter.all false
theorem Jl8 (a b : Rat) : Rat.divInt (a.num * (b.den : Int) + b.num * (a.den : Int)) ((a.den * b.den : Nat) : Int) = a + b := by
 rw [Rat.add_def', Rat.divInt_ofNat]
theorem Jl6 (a b : Rat) : Rat.divInt (a.num * b.num) ((a.den * b.den : Nat) : Int) = a * b := by
 rw [Rat.mul_def', Rat.divInt_ofNat]
theorem Jlo (a b : Rat) : (a.num * (b.den : Int) - b.num * (a.den : Int)).sign = Vq a b := by
 have h1 := Rat.lt_iff a b
 have h2 := Rat.lt_iff b a
 unfold Vq
 by_cases h : a < b
 ·rw [if_pos h]
  have := h1.1 h
  exact Int.sign_eq_neg_one_of_neg (by omega)
 rw [if_neg h]
 have g1 : ¬ (a.num * (b.den : Int) < b.num * (a.den : Int)) := fun h' => h (h1.2 h')
 by_cases h' : b < a
 ·rw [if_pos h']
  have := h2.1 h'
  exact Int.sign_eq_one_of_pos (by omega)
 rw [if_neg h']
 have g2 : ¬ (b.num * (a.den : Int) < a.num * (b.den : Int)) := fun bE => h' (h2.2 bE)
 have : a.num * (b.den : Int) - b.num * (a.den : Int) = 0 := by omega
 rw [this]
 rfl
theorem QS.blens {m : Nat} {q : Rat} (h : QS m q) (hm : m <= 274877906944) : Je q.num.natAbs <= 274877906944 /\ Je ((q.den : Int)).natAbs <= 274877906944 := ⟨nt h.1 hm, by rw [Int.natAbs_natCast]; exact nt h.2 hm⟩
theorem Zp {x y : Int} {m n : Nat} (hx : Je x.natAbs <= m) (hy : Je y.natAbs <= n) : Je (x * y).natAbs <= m + n := by
 rw [Int.natAbs_mul]
 have := Kz x.natAbs y.natAbs
 omega
theorem Jlc {x y : Int} {m : Nat} (hx : Je x.natAbs <= m) (hy : Je y.natAbs <= m) : Je (x + y).natAbs <= m + 1 := by
 have h1 := Jz (Int.natAbs_add_le x y)
 have h2 := Jej x.natAbs y.natAbs
 omega
theorem Jau (q : Rat) (B : Nat) (V : Value) (w : World) (h : IsQ w B V q) (y9 : B <= w.heap.size) : Calls Tryz.prog 130 #[V] w (Jal (q.den : Int) w) := by
 obtain ⟨n0, A0, l0, c0c, A9, l9, c9c, rfl⟩ := h.shape
 have H := lh h.parts.2.2
 clear h
 obtain ⟨b0, b1, hB, hZ⟩ := bx2 w 56 #[.bool n0, .slice A0 l0 c0c, .slice A9 l9 c9c] 54 #[.bool false, .slice none 0 0]
 go_enter Tryz.func130, Tryz.ntmps130
 go_wp2_with fail
 generalize ((w.alloc (.cells #[.bool n0, .slice A0 l0 c0c, .slice A9 l9 c9c] 56)).alloc (.cells #[.bool false, .slice none 0 0] 54)) = W at *
 have u4 : B <= W.heap.size := nt y9 hB.size
 have aB : ∀ w', Below W.heap.size W w' -> Calls Tryz.prog 70 #[.bool false, .slice A9 l9 c9c] w' (Jal (q.den : Int) w') := fun w' hb => Ym false q.den B _ w' ((H.out.next y9 hB).next u4 hb) (nt u4 hb.size)
 have HMK := lh aB
 clear aB
 have c0 := b0; have o0 := c0.lt; obtain ⟨e8, e9, j0⟩ := c0.c3; have c1 := b1; have o6 := c1.lt; have hc := Below.refl W.heap.size W; go_wp2_with fail; refine (HMK.out _ hc).mono ?_; rintro e w1 ⟨v1, rfl, j9, s9⟩; obtain ⟨g1, A1, l1, c1c, aG⟩ := j9.shape; subst aG; (try clear e8 e9 j0); obtain ⟨c0, e8, e9, j0⟩ := c0.zc3 s9; (try clear o0); have o0 := c0.lt; have c1 := c1.below s9 c1.lt; (try clear o6); have o6 := c1.lt; have hc := Ja hc s9; obtain ⟨j6, j7, bF, bG, aS, aT⟩ := c1.f2
 go_wp2
 refine bodyPost_ret (v := .agg #[.bool g1, .slice A1 l1 c1c]) (by simp [results, Tryz.results130, go_sem, aS, aT]) rfl ?_
 exact Zh hB hc j9 c1 (by omega)
theorem Jrs (q : Rat) (B : Nat) (V : Value) (w : World) (h : IsQ w B V q) (y9 : B <= w.heap.size) : Calls Tryz.prog 145 #[V] w (Ret (.int .i64 q.num.sign) w) := by
 obtain ⟨n0, A0, l0, c0c, A9, l9, c9c, rfl⟩ := h.shape
 have H := lh h.num
 clear h
 obtain ⟨b0, hB, hZ⟩ := bx1 w 56 #[.bool n0, .slice A0 l0 c0c, .slice A9 l9 c9c]
 go_enter Tryz.func145, Tryz.ntmps145
 go_wp2_with fail
 generalize (w.alloc (.cells #[.bool n0, .slice A0 l0 c0c, .slice A9 l9 c9c] 56)) = W at *
 have hs := Jhq q.num B _ W (H.out.next y9 hB)
 generalize q.num.sign = z at *
 have HS := lh hs
 clear hs H
 obtain ⟨x8, x9, y8⟩ := b0.c3
 refine HS.out.mono ?_
 rintro e w1 ⟨rfl, s9⟩
 go_wp2
 go_ret
 exact ⟨rfl, Ja hB s9⟩
theorem Jda (a b : Rat) (B : Nat) (V1 V2 : Value) (w : World) (h1 : IsQ w B V1 a) (h2 : IsQ w B V2 b) (y9 : B <= w.heap.size) (ha : QS 68719476736 a) (hb : QS 68719476736 b) :
  Calls Tryz.prog 94 #[V1, V2] w (Jak (a + b) w) := by
 obtain ⟨n0, A0, l0, c0c, A0', l0', c0c', rfl⟩ := h1.shape
 obtain ⟨n9, A9, l9, c9c, A9', l9', c9c', rfl⟩ := h2.shape
 have H1 := lh h1
 have H2 := lh h2
 obtain ⟨s1, s2⟩ := ha.blens (by omega)
 obtain ⟨s3, s4⟩ := hb.blens (by omega)
 have s5 : Je (a.num * (b.den : Int)).natAbs <= 274877906944 := nt (Zp ha.1 (by rw [Int.natAbs_natCast]; exact hb.2)) (by omega)
 have s6 : Je (b.num * (a.den : Int)).natAbs <= 274877906944 := nt (Zp hb.1 (by rw [Int.natAbs_natCast]; exact ha.2)) (by omega)
 have s7 : (Jc a.den).length <= 34359738368 := Yo (by rw [Int.natAbs_natCast] at s2; exact s2) (by omega)
 have s8 : (Jc b.den).length <= 34359738368 := Yo (by rw [Int.natAbs_natCast] at s4; exact s4) (by omega)
 have aB : ∀ w' V V', IsI w' w'.heap.size V (a.num * (b.den : Int) + b.num * (a.den : Int)) -> IsI w' w'.heap.size V' ((a.den * b.den : Nat) : Int) -> Calls Tryz.prog 63 #[V, V'] w' (Jak (a + b) w') := fun w' V V' g1 g2 => by
  have := Jbr _ _ _ V V' w' g1 g2 zd (Yo (nt (Jlc (m := 137438953472) (nt (Zp ha.1 (by rw [Int.natAbs_natCast]; exact hb.2)) (by omega)) (nt (Zp hb.1 (by rw [Int.natAbs_natCast]; exact ha.2)) (by omega))) (by omega)) (by omega))
   (Yo (by rw [Int.natAbs_natCast]; exact nt (Kz _ _) (by have := ha.2; have := hb.2; omega)) (by omega)) (by have h1 := a.den_nz; have h2 := b.den_nz; have := Nat.mul_ne_zero h1 h2; omega)
  rw [Jl8] at this
  exact this
 have HMK := lh aB
 clear aB h1 h2 ha hb
 obtain ⟨N1, bH⟩ : ∃ N1, a.num = N1 := ⟨_, rfl⟩
 obtain ⟨N2, bI⟩ : ∃ N2, b.num = N2 := ⟨_, rfl⟩
 obtain ⟨b0, b1, b2, hB, hZ⟩ := bx3 w 56 #[.bool n0, .slice A0 l0 c0c, .slice A0' l0' c0c'] 56 #[.bool n9, .slice A9 l9 c9c, .slice A9' l9' c9c'] 56 #[.bool false, .slice none 0 0, .slice none 0 0]
 have ne1 := neA w.heap.size
 have ne2 := neC w.heap.size
 have ne3 := neB w.heap.size
 have ne4 := neD w.heap.size
 clear bH bI N1 N2
 go_enter Tryz.func94, Tryz.ntmps94
 go_upto_region 1 with fail
 generalize (((w.alloc (.cells #[.bool n0, .slice A0 l0 c0c, .slice A0' l0' c0c'] 56)).alloc (.cells #[.bool n9, .slice A9 l9 c9c, .slice A9' l9' c9c'] 56)).alloc (.cells #[.bool false, .slice none 0 0, .slice none 0 0] 56)) = W at *
 have u4 : B <= W.heap.size := nt y9 hB.size
 have G1 : Hid (∀ w', Below W.heap.size W w' -> IsQ w' w'.heap.size (.agg #[.bool n0, .slice A0 l0 c0c, .slice A0' l0' c0c']) a) := lh fun w' hb => ((H1.out.next y9 hB).next u4 hb).more (nt u4 hb.size)
 have G2 : Hid (∀ w', Below W.heap.size W w' -> IsQ w' w'.heap.size (.agg #[.bool n9, .slice A9 l9 c9c, .slice A9' l9' c9c']) b) := lh fun w' hb => ((H2.out.next y9 hB).next u4 hb).more (nt u4 hb.size)
 clear H1 H2
 obtain ⟨x8, x9, y8⟩ := b0.c3; obtain ⟨aC, aD, aE⟩ := b1.c3
 obtain ⟨x8, x9, y8⟩ := b0.c3; have c0 := b0.drew; have o0 := c0.lt; obtain ⟨aC, aD, aE⟩ := b1.c3; have c1 := b1.drew; have o6 := c1.lt; have c2 := b2.drew; have p9 := c2.lt; have hc := Ji W; go_region_held3 (fun w' => w'.cell? ⟨w.heap.size, 0, none⟩ = some (.bool n0) /\ w'.cell? ⟨w.heap.size, 1, none⟩ = some (.slice A0 l0 c0c) /\ w'.cell? ⟨w.heap.size, 2, none⟩ = some (.slice A0' l0' c0c') /\ w'.cell? ⟨w.heap.size + 1, 0, none⟩ = some (.bool n9) /\ w'.cell? ⟨w.heap.size + 1, 1, none⟩ = some (.slice A9 l9 c9c) /\ w'.cell? ⟨w.heap.size + 1, 2, none⟩ = some (.slice A9' l9' c9c')) (go_keep) (first | (go_at_call 130; (with_reducible refine (Jau b _ _ _ (G2.out _ hc) zd).mono ?_); rintro e w1 ⟨v1, rfl, j9, s9⟩; obtain ⟨g1, A1, l1, c1c, aG⟩ := j9.shape; subst aG; (try clear e8 e9 j0); obtain ⟨c0, e8, e9, j0⟩ := c0.zc3 s9; (try clear o0); have o0 := c0.lt; (try clear j6 j7 j8); obtain ⟨c1, j6, j7, j8⟩ := c1.zc3 s9; (try clear o6); have o6 := c1.lt; have c2 := c2.below s9 c2.lt; (try clear p9); have p9 := c2.lt; have hc := Ja hc s9) | (go_at_call 69; (with_reducible refine (Ya _ _ _ _ _ _ (G1.out _ hc).num j9 zd s1 s4).mono ?_); rintro e w2 ⟨v2, rfl, o7, o9⟩; obtain ⟨g2, A2, l2, c2c, aO⟩ := o7.shape; subst aO; (try clear e8 e9 j0); obtain ⟨c0, e8, e9, j0⟩ := c0.zc3 o9; (try clear o0); have o0 := c0.lt; (try clear j6 j7 j8); obtain ⟨c1, j6, j7, j8⟩ := c1.zc3 o9; (try clear o6); have o6 := c1.lt; have c2 := c2.below o9 c2.lt; (try clear p9); have p9 := c2.lt; have j9 := (j9.next zd o9).more o9.size; have hc := Ja hc o9) | (go_at_call 130; (with_reducible refine (Jau a _ _ _ (G1.out _ hc) zd).mono ?_); rintro e w3 ⟨v3, rfl, p8, p7⟩; obtain ⟨g3, A3, l3, c3c, aP⟩ := p8.shape; subst aP; (try clear e8 e9 j0); obtain ⟨c0, e8, e9, j0⟩ := c0.zc3 p7; (try clear o0); have o0 := c0.lt; (try clear j6 j7 j8); obtain ⟨c1, j6, j7, j8⟩ := c1.zc3 p7; (try clear o6); have o6 := c1.lt; have c2 := c2.below p7 c2.lt; (try clear p9); have p9 := c2.lt; have j9 := (j9.next zd p7).more p7.size; have o7 := (o7.next zd p7).more p7.size; have hc := Ja hc p7) | (go_at_call 69; (with_reducible refine (Ya _ _ _ _ _ _ (G2.out _ hc).num p8 zd s3 s2).mono ?_); rintro e w4 ⟨v4, rfl, t7, o8⟩; obtain ⟨g4, A4, l4, c4c, aQ⟩ := t7.shape; subst aQ; (try clear e8 e9 j0); obtain ⟨c0, e8, e9, j0⟩ := c0.zc3 o8; (try clear o0); have o0 := c0.lt; (try clear j6 j7 j8); obtain ⟨c1, j6, j7, j8⟩ := c1.zc3 o8; (try clear o6); have o6 := c1.lt; have c2 := c2.below o8 c2.lt; (try clear p9); have p9 := c2.lt; have j9 := (j9.next zd o8).more o8.size; have o7 := (o7.next zd o8).more o8.size; have p8 := (p8.next zd o8).more o8.size; have hc := Ja hc o8) | (go_at_call 135; (with_reducible refine (Jdq _ _ _ _ _ _ o7 t7 zd s5 s6).mono ?_); rintro e w5 ⟨v5, rfl, aF, q8⟩; obtain ⟨g5, A5, l5, c5c, bJ⟩ := aF.shape; subst bJ; (try clear e8 e9 j0); obtain ⟨c0, e8, e9, j0⟩ := c0.zc3 q8; (try clear o0); have o0 := c0.lt; (try clear j6 j7 j8); obtain ⟨c1, j6, j7, j8⟩ := c1.zc3 q8; (try clear o6); have o6 := c1.lt; have c2 := c2.below q8 c2.lt; (try clear p9); have p9 := c2.lt; have j9 := (j9.next zd q8).more q8.size; have o7 := (o7.next zd q8).more q8.size; have p8 := (p8.next zd q8).more q8.size; have t7 := (t7.next zd q8).more q8.size; have hc := Ja hc q8) | (go_at_call 71; (with_reducible refine (Jbd _ _ _ _ _ _ (G1.out _ hc).parts.2.2 (G2.out _ hc).parts.2.2 zd s7 s8).mono ?_); rintro e w6 ⟨v6, rfl, aN, aA⟩; obtain ⟨A6, l6, c6c, bK⟩ := aN.form; subst bK; (try clear e8 e9 j0); obtain ⟨c0, e8, e9, j0⟩ := c0.zc3 aA; (try clear o0); have o0 := c0.lt; (try clear j6 j7 j8); obtain ⟨c1, j6, j7, j8⟩ := c1.zc3 aA; (try clear o6); have o6 := c1.lt; have c2 := c2.below aA c2.lt; (try clear p9); have p9 := c2.lt; have j9 := (j9.next zd aA).more aA.size; have o7 := (o7.next zd aA).more aA.size; have p8 := (p8.next zd aA).more aA.size; have t7 := (t7.next zd aA).more aA.size; have aF := (aF.next zd aA).more aA.size; have hc := Ja hc aA) | (go_at_call 70; (with_reducible refine (Ym false _ _ _ _ aN zd).mono ?_); rintro e w7 ⟨v7, rfl, aR, x7⟩; obtain ⟨g7, A7, l7, c7c, bL⟩ := aR.shape; subst bL; (try clear e8 e9 j0); obtain ⟨c0, e8, e9, j0⟩ := c0.zc3 x7; (try clear o0); have o0 := c0.lt; (try clear j6 j7 j8); obtain ⟨c1, j6, j7, j8⟩ := c1.zc3 x7; (try clear o6); have o6 := c1.lt; have c2 := c2.below x7 c2.lt; (try clear p9); have p9 := c2.lt; have j9 := (j9.next zd x7).more x7.size; have o7 := (o7.next zd x7).more x7.size; have p8 := (p8.next zd x7).more x7.size; have t7 := (t7.next zd x7).more x7.size; have aF := (aF.next zd x7).more x7.size; have aN := (aN.next zd x7).more x7.size; have hc := Ja hc x7) | (go_at_call 63; (with_reducible refine (HMK.out _ _ _ aF aR).mono ?_); rintro e w8 ⟨v8, rfl, bD, t8⟩; obtain ⟨g8, A8, l8, c8c, A8', l8', c8c', bM⟩ := bD.shape; subst bM; (try clear e8 e9 j0); obtain ⟨c0, e8, e9, j0⟩ := c0.zc3 t8; (try clear o0); have o0 := c0.lt; (try clear j6 j7 j8); obtain ⟨c1, j6, j7, j8⟩ := c1.zc3 t8; (try clear o6); have o6 := c1.lt; have c2 := c2.below t8 c2.lt; (try clear p9); have p9 := c2.lt; have j9 := (j9.next zd t8).more t8.size; have o7 := (o7.next zd t8).more t8.size; have p8 := (p8.next zd t8).more t8.size; have t7 := (t7.next zd t8).more t8.size; have aF := (aF.next zd t8).more t8.size; have aN := (aN.next zd t8).more t8.size; have aR := (aR.next zd t8).more t8.size; have hc := Ja hc t8; obtain ⟨aU, aV, aW, aX, aY, aZ, aH, aI, aJ⟩ := c2.f3))
 all_goals
  go_wp2
  refine bodyPost_ret (v := .agg #[.bool g8, .slice A8 l8 c8c, .slice A8' l8' c8c']) (by simp [results, Tryz.results94, go_sem, aH, aI, aJ]) rfl ?_
  exact Zg hB hc bD c2 (by omega)
theorem Jnc (a b : Rat) (B : Nat) (V1 V2 : Value) (w : World) (h1 : IsQ w B V1 a) (h2 : IsQ w B V2 b) (y9 : B <= w.heap.size) (ha : QS 68719476736 a) (hb : QS 68719476736 b) :
  Calls Tryz.prog 30 #[V1, V2] w (Jak (a * b) w) := by
 obtain ⟨n0, A0, l0, c0c, A0', l0', c0c', rfl⟩ := h1.shape
 obtain ⟨n9, A9, l9, c9c, A9', l9', c9c', rfl⟩ := h2.shape
 have H1 := lh h1
 have H2 := lh h2
 obtain ⟨s1, s2⟩ := ha.blens (by omega)
 obtain ⟨s3, s4⟩ := hb.blens (by omega)
 have s7 : (Jc a.den).length <= 34359738368 := Yo (by rw [Int.natAbs_natCast] at s2; exact s2) (by omega)
 have s8 : (Jc b.den).length <= 34359738368 := Yo (by rw [Int.natAbs_natCast] at s4; exact s4) (by omega)
 have aB : ∀ w' V V', IsI w' w'.heap.size V (a.num * b.num) -> IsI w' w'.heap.size V' ((a.den * b.den : Nat) : Int) -> Calls Tryz.prog 63 #[V, V'] w' (Jak (a * b) w') := fun w' V V' g1 g2 => by
  have := Jbr _ _ _ V V' w' g1 g2 zd (Yo (nt (Zp ha.1 hb.1) (by omega)) (by omega))
   (Yo (by rw [Int.natAbs_natCast]; exact nt (Kz _ _) (by have := ha.2; have := hb.2; omega)) (by omega)) (by have h1 := a.den_nz; have h2 := b.den_nz; have := Nat.mul_ne_zero h1 h2; omega)
  rw [Jl6] at this
  exact this
 have HMK := lh aB
 clear aB h1 h2 ha hb
 obtain ⟨b0, b1, b2, hB, hZ⟩ := bx3 w 56 #[.bool n0, .slice A0 l0 c0c, .slice A0' l0' c0c'] 56 #[.bool n9, .slice A9 l9 c9c, .slice A9' l9' c9c'] 56 #[.bool false, .slice none 0 0, .slice none 0 0]
 have ne1 := neA w.heap.size
 have ne2 := neC w.heap.size
 have ne3 := neB w.heap.size
 have ne4 := neD w.heap.size
 go_enter Tryz.func30, Tryz.ntmps30
 go_upto_region 1 with fail
 generalize (((w.alloc (.cells #[.bool n0, .slice A0 l0 c0c, .slice A0' l0' c0c'] 56)).alloc (.cells #[.bool n9, .slice A9 l9 c9c, .slice A9' l9' c9c'] 56)).alloc (.cells #[.bool false, .slice none 0 0, .slice none 0 0] 56)) = W at *
 have u4 : B <= W.heap.size := nt y9 hB.size
 have G1 : Hid (∀ w', Below W.heap.size W w' -> IsQ w' w'.heap.size (.agg #[.bool n0, .slice A0 l0 c0c, .slice A0' l0' c0c']) a) := lh fun w' hb => ((H1.out.next y9 hB).next u4 hb).more (nt u4 hb.size)
 have G2 : Hid (∀ w', Below W.heap.size W w' -> IsQ w' w'.heap.size (.agg #[.bool n9, .slice A9 l9 c9c, .slice A9' l9' c9c']) b) := lh fun w' hb => ((H2.out.next y9 hB).next u4 hb).more (nt u4 hb.size)
 clear H1 H2
 obtain ⟨x8, x9, y8⟩ := b0.c3; obtain ⟨aC, aD, aE⟩ := b1.c3
 obtain ⟨x8, x9, y8⟩ := b0.c3; have c0 := b0.drew; have o0 := c0.lt; obtain ⟨aC, aD, aE⟩ := b1.c3; have c1 := b1.drew; have o6 := c1.lt; have c2 := b2.drew; have p9 := c2.lt; have hc := Ji W; go_region_held3 (fun w' => w'.cell? ⟨w.heap.size, 0, none⟩ = some (.bool n0) /\ w'.cell? ⟨w.heap.size, 1, none⟩ = some (.slice A0 l0 c0c) /\ w'.cell? ⟨w.heap.size, 2, none⟩ = some (.slice A0' l0' c0c') /\ w'.cell? ⟨w.heap.size + 1, 0, none⟩ = some (.bool n9) /\ w'.cell? ⟨w.heap.size + 1, 1, none⟩ = some (.slice A9 l9 c9c) /\ w'.cell? ⟨w.heap.size + 1, 2, none⟩ = some (.slice A9' l9' c9c')) (go_keep) (first | (go_at_call 69; (with_reducible refine (Ya _ _ _ _ _ _ (G1.out _ hc).num (G2.out _ hc).num zd s1 s3).mono ?_); rintro e w1 ⟨v1, rfl, j9, s9⟩; obtain ⟨g1, A1, l1, c1c, aG⟩ := j9.shape; subst aG; (try clear e8 e9 j0); obtain ⟨c0, e8, e9, j0⟩ := c0.zc3 s9; (try clear o0); have o0 := c0.lt; (try clear j6 j7 j8); obtain ⟨c1, j6, j7, j8⟩ := c1.zc3 s9; (try clear o6); have o6 := c1.lt; have c2 := c2.below s9 c2.lt; (try clear p9); have p9 := c2.lt; have hc := Ja hc s9) | (go_at_call 71; (with_reducible refine (Jbd _ _ _ _ _ _ (G1.out _ hc).parts.2.2 (G2.out _ hc).parts.2.2 zd s7 s8).mono ?_); rintro e w2 ⟨v2, rfl, o7, o9⟩; obtain ⟨A2, l2, c2c, aO⟩ := o7.form; subst aO; (try clear e8 e9 j0); obtain ⟨c0, e8, e9, j0⟩ := c0.zc3 o9; (try clear o0); have o0 := c0.lt; (try clear j6 j7 j8); obtain ⟨c1, j6, j7, j8⟩ := c1.zc3 o9; (try clear o6); have o6 := c1.lt; have c2 := c2.below o9 c2.lt; (try clear p9); have p9 := c2.lt; have j9 := (j9.next zd o9).more o9.size; have hc := Ja hc o9) | (go_at_call 70; (with_reducible refine (Ym false _ _ _ _ o7 zd).mono ?_); rintro e w3 ⟨v3, rfl, p8, p7⟩; obtain ⟨g3, A3, l3, c3c, aP⟩ := p8.shape; subst aP; (try clear e8 e9 j0); obtain ⟨c0, e8, e9, j0⟩ := c0.zc3 p7; (try clear o0); have o0 := c0.lt; (try clear j6 j7 j8); obtain ⟨c1, j6, j7, j8⟩ := c1.zc3 p7; (try clear o6); have o6 := c1.lt; have c2 := c2.below p7 c2.lt; (try clear p9); have p9 := c2.lt; have j9 := (j9.next zd p7).more p7.size; have o7 := (o7.next zd p7).more p7.size; have hc := Ja hc p7) | (go_at_call 63; (with_reducible refine (HMK.out _ _ _ j9 p8).mono ?_); rintro e w4 ⟨v4, rfl, t7, o8⟩; obtain ⟨g4, A4, l4, c4c, A4', l4', c4c', aQ⟩ := t7.shape; subst aQ; (try clear e8 e9 j0); obtain ⟨c0, e8, e9, j0⟩ := c0.zc3 o8; (try clear o0); have o0 := c0.lt; (try clear j6 j7 j8); obtain ⟨c1, j6, j7, j8⟩ := c1.zc3 o8; (try clear o6); have o6 := c1.lt; have c2 := c2.below o8 c2.lt; (try clear p9); have p9 := c2.lt; have j9 := (j9.next zd o8).more o8.size; have o7 := (o7.next zd o8).more o8.size; have p8 := (p8.next zd o8).more o8.size; have hc := Ja hc o8; obtain ⟨aU, aV, aW, aX, aY, aZ, aH, aI, aJ⟩ := c2.f3))
 all_goals
  go_wp2
  refine bodyPost_ret (v := .agg #[.bool g4, .slice A4 l4 c4c, .slice A4' l4' c4c']) (by simp [results, Tryz.results30, go_sem, aH, aI, aJ]) rfl ?_
  exact Zg hB hc t7 c2 (by omega)
theorem Jhs (a b : Rat) (B : Nat) (V1 V2 : Value) (w : World) (h1 : IsQ w B V1 a) (h2 : IsQ w B V2 b) (y9 : B <= w.heap.size) (ha : QS 68719476736 a) (hb : QS 68719476736 b) :
  Calls Tryz.prog 89 #[V1, V2] w (Ret (.int .i64 (Vq a b)) w) := by
 obtain ⟨n0, A0, l0, c0c, A0', l0', c0c', rfl⟩ := h1.shape
 obtain ⟨n9, A9, l9, c9c, A9', l9', c9c', rfl⟩ := h2.shape
 have H1 := lh h1
 have H2 := lh h2
 obtain ⟨s1, s2⟩ := ha.blens (by omega)
 obtain ⟨s3, s4⟩ := hb.blens (by omega)
 have s5 : Je (a.num * (b.den : Int)).natAbs <= 274877906944 := nt (Zp ha.1 (by rw [Int.natAbs_natCast]; exact hb.2)) (by omega)
 have s6 : Je (b.num * (a.den : Int)).natAbs <= 274877906944 := nt (Zp hb.1 (by rw [Int.natAbs_natCast]; exact ha.2)) (by omega)
 have aB : ∀ w' V V', IsI w' w'.heap.size V (a.num * (b.den : Int)) -> IsI w' w'.heap.size V' (b.num * (a.den : Int)) -> Calls Tryz.prog 129 #[V, V'] w' (Ret (.int .i64 (Vq a b)) w') := fun w' V V' g1 g2 => by
  have := Ji2 _ _ _ V V' w' g1 g2 zd s5 s6
  rw [Jlo] at this
  exact this
 have HMK := lh aB
 clear aB h1 h2 ha hb
 generalize Vq a b = cv at *
 obtain ⟨b0, b1, hB, hZ⟩ := bx2 w 56 #[.bool n0, .slice A0 l0 c0c, .slice A0' l0' c0c'] 56 #[.bool n9, .slice A9 l9 c9c, .slice A9' l9' c9c']
 go_enter Tryz.func89, Tryz.ntmps89
 go_upto_region 1 with fail
 generalize ((w.alloc (.cells #[.bool n0, .slice A0 l0 c0c, .slice A0' l0' c0c'] 56)).alloc (.cells #[.bool n9, .slice A9 l9 c9c, .slice A9' l9' c9c'] 56)) = W at *
 have u4 : B <= W.heap.size := nt y9 hB.size
 have G1 : Hid (∀ w', Below W.heap.size W w' -> IsQ w' w'.heap.size (.agg #[.bool n0, .slice A0 l0 c0c, .slice A0' l0' c0c']) a) := lh fun w' hb => ((H1.out.next y9 hB).next u4 hb).more (nt u4 hb.size)
 have G2 : Hid (∀ w', Below W.heap.size W w' -> IsQ w' w'.heap.size (.agg #[.bool n9, .slice A9 l9 c9c, .slice A9' l9' c9c']) b) := lh fun w' hb => ((H2.out.next y9 hB).next u4 hb).more (nt u4 hb.size)
 clear H1 H2
 obtain ⟨x8, x9, y8⟩ := b0.c3; obtain ⟨aC, aD, aE⟩ := b1.c3
 obtain ⟨x8, x9, y8⟩ := b0.c3; have c0 := b0.drew; have o0 := c0.lt; obtain ⟨aC, aD, aE⟩ := b1.c3; have c1 := b1.drew; have o6 := c1.lt; have hc := Ji W; go_region_held3 (fun w' => w'.cell? ⟨w.heap.size, 0, none⟩ = some (.bool n0) /\ w'.cell? ⟨w.heap.size, 1, none⟩ = some (.slice A0 l0 c0c) /\ w'.cell? ⟨w.heap.size, 2, none⟩ = some (.slice A0' l0' c0c') /\ w'.cell? ⟨w.heap.size + 1, 0, none⟩ = some (.bool n9) /\ w'.cell? ⟨w.heap.size + 1, 1, none⟩ = some (.slice A9 l9 c9c) /\ w'.cell? ⟨w.heap.size + 1, 2, none⟩ = some (.slice A9' l9' c9c')) (go_keep) (first | (go_at_call 130; (with_reducible refine (Jau b _ _ _ (G2.out _ hc) zd).mono ?_); rintro e w1 ⟨v1, rfl, j9, s9⟩; obtain ⟨g1, A1, l1, c1c, aG⟩ := j9.shape; subst aG; (try clear e8 e9 j0); obtain ⟨c0, e8, e9, j0⟩ := c0.zc3 s9; (try clear o0); have o0 := c0.lt; (try clear j6 j7 j8); obtain ⟨c1, j6, j7, j8⟩ := c1.zc3 s9; (try clear o6); have o6 := c1.lt; have hc := Ja hc s9) | (go_at_call 69; (with_reducible refine (Ya _ _ _ _ _ _ (G1.out _ hc).num j9 zd s1 s4).mono ?_); rintro e w2 ⟨v2, rfl, o7, o9⟩; obtain ⟨g2, A2, l2, c2c, aO⟩ := o7.shape; subst aO; (try clear e8 e9 j0); obtain ⟨c0, e8, e9, j0⟩ := c0.zc3 o9; (try clear o0); have o0 := c0.lt; (try clear j6 j7 j8); obtain ⟨c1, j6, j7, j8⟩ := c1.zc3 o9; (try clear o6); have o6 := c1.lt; have j9 := (j9.next zd o9).more o9.size; have hc := Ja hc o9) | (go_at_call 130; (with_reducible refine (Jau a _ _ _ (G1.out _ hc) zd).mono ?_); rintro e w3 ⟨v3, rfl, p8, p7⟩; obtain ⟨g3, A3, l3, c3c, aP⟩ := p8.shape; subst aP; (try clear e8 e9 j0); obtain ⟨c0, e8, e9, j0⟩ := c0.zc3 p7; (try clear o0); have o0 := c0.lt; (try clear j6 j7 j8); obtain ⟨c1, j6, j7, j8⟩ := c1.zc3 p7; (try clear o6); have o6 := c1.lt; have j9 := (j9.next zd p7).more p7.size; have o7 := (o7.next zd p7).more p7.size; have hc := Ja hc p7) | (go_at_call 69; (with_reducible refine (Ya _ _ _ _ _ _ (G2.out _ hc).num p8 zd s3 s2).mono ?_); rintro e w4 ⟨v4, rfl, t7, o8⟩; obtain ⟨g4, A4, l4, c4c, aQ⟩ := t7.shape; subst aQ; (try clear e8 e9 j0); obtain ⟨c0, e8, e9, j0⟩ := c0.zc3 o8; (try clear o0); have o0 := c0.lt; (try clear j6 j7 j8); obtain ⟨c1, j6, j7, j8⟩ := c1.zc3 o8; (try clear o6); have o6 := c1.lt; have j9 := (j9.next zd o8).more o8.size; have o7 := (o7.next zd o8).more o8.size; have p8 := (p8.next zd o8).more o8.size; have hc := Ja hc o8) | (go_at_call 129; (with_reducible refine (HMK.out _ _ _ o7 t7).mono ?_); rintro e w5 ⟨rfl, q8⟩; (try clear e8 e9 j0); obtain ⟨c0, e8, e9, j0⟩ := c0.zc3 q8; (try clear o0); have o0 := c0.lt; (try clear j6 j7 j8); obtain ⟨c1, j6, j7, j8⟩ := c1.zc3 q8; (try clear o6); have o6 := c1.lt; have j9 := (j9.next zd q8).more q8.size; have o7 := (o7.next zd q8).more q8.size; have p8 := (p8.next zd q8).more q8.size; have t7 := (t7.next zd q8).more q8.size; have hc := Ja hc q8))
 all_goals
  go_wp2
  go_ret
  exact ⟨rfl, Ja hB hc⟩
theorem Jb9 (z : Int) (w : World) (h0 : -9223372036854775808 <= z) (h1 : z <= 9223372036854775807) : Calls Tryz.prog 87 #[.int .i64 z] w (Jak (z : Rat) w) := by
 have H1 := lh h0
 have H2 := lh h1
 clear h0 h1
 obtain ⟨b0, hB, hZ⟩ := bx1 w 56 #[.bool false, .slice none 0 0, .slice none 0 0]
 go_enter Tryz.func87, Tryz.ntmps87
 go_wp2_with fail
 generalize (w.alloc (.cells #[.bool false, .slice none 0 0, .slice none 0 0] 56)) = W at *
 refine (Jca z W H1.out H2.out).mono ?_
 rintro e w1 ⟨v1, rfl, j9, s9⟩
 obtain ⟨g1, A1, l1, c1c, rfl⟩ := j9.shape
 have b0 := b0.below s9 b0.lt
 go_wp2_with fail
 refine (Jat 1 w1 (by omega)).mono ?_
 rintro e w2 ⟨v2, rfl, o7, o9⟩
 obtain ⟨A2, l2, c2c, rfl⟩ := o7.form
 have j9 := (j9.next zd o9).more o9.size
 have b0 := b0.below o9 b0.lt
 obtain ⟨x8, x9, y8, bA, bB, bC, aK, aL, aM⟩ := b0.f3
 go_wp2
 refine bodyPost_ret (v := .agg #[.bool g1, .slice A1 l1 c1c, .slice A2 l2 c2c]) (by simp [results, Tryz.results87, go_sem, aK, aL, aM]) rfl ?_
 exact Zg hB (Ja s9 o9) (IsQ.mk (q := (z : Rat)) j9 o7) b0 (by omega)
theorem Jhp (n d : Int) (w : World) (h0 : -9223372036854775808 <= n) (h1 : n <= 9223372036854775807) (h2 : -9223372036854775808 <= d) (h3 : d <= 9223372036854775807) (hd : d ≠ 0) : Calls Tryz.prog 27 #[.int .i64 n, .int .i64 d] w (Jak (Rat.divInt n d) w) := by
 have s1 : (Jc n.natAbs).length <= 17179869184 := nt (Vl _ 2 (Yd _ (by omega))) (by omega)
 have s2 : (Jc d.natAbs).length <= 17179869184 := nt (Vl _ 2 (Yd _ (by omega))) (by omega)
 have H1 := lh h0
 have H2 := lh h1
 have H3 := lh h2
 have H4 := lh h3
 have HD := lh hd
 clear h0 h1 h2 h3 hd
 obtain ⟨b0, hB, hZ⟩ := bx1 w 56 #[.bool false, .slice none 0 0, .slice none 0 0]
 go_enter Tryz.func27, Tryz.ntmps27
 go_wp2_with fail
 generalize (w.alloc (.cells #[.bool false, .slice none 0 0, .slice none 0 0] 56)) = W at *
 refine (Jca n W H1.out H2.out).mono ?_
 rintro e w1 ⟨v1, rfl, j9, s9⟩
 obtain ⟨g1, A1, l1, c1c, rfl⟩ := j9.shape
 have b0 := b0.below s9 b0.lt
 go_wp2_with fail
 refine (Jca d w1 H3.out H4.out).mono ?_
 rintro e w2 ⟨v2, rfl, o7, o9⟩
 obtain ⟨g2, A2, l2, c2c, rfl⟩ := o7.shape
 have j9 := (j9.next zd o9).more o9.size
 have b0 := b0.below o9 b0.lt
 go_wp2_with fail
 refine (Jbr n d _ _ _ w2 j9 o7 zd s1 s2 HD.out).mono ?_
 rintro e w3 ⟨v3, rfl, p8, p7⟩
 obtain ⟨g3, A3, l3, c3c, A3', l3', c3c', rfl⟩ := p8.shape
 have b0 := b0.below p7 b0.lt
 obtain ⟨x8, x9, y8, bA, bB, bC, aK, aL, aM⟩ := b0.f3
 go_wp2
 refine bodyPost_ret (v := .agg #[.bool g3, .slice A3 l3 c3c, .slice A3' l3' c3c']) (by simp [results, Tryz.results27, go_sem, aK, aL, aM]) rfl ?_
 exact Zg hB (Ja (Ja s9 o9) p7) p8 b0 (by omega)
