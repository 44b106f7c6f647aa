import Derived.Test.YtcoloflmigcphaaGreatDoorRefInt
namespace Go.Proofs.YtcoloflmigcphaaGreatDoor
set_option maxRecDepth 100000
set_option maxHeartbeats 1000000
open Go.RowKit
set_option linter.all false
theorem Jrw (a b : Rat) : (a.num * (b.den : Int) - b.num * (a.den : Int)).sign = Jc2 a b := by
 have h1 := Rat.lt_iff a b
 have h2 := Rat.lt_iff b a
 unfold Jc2
 by_cases h : a < b
 ·rw [if_pos h]
  have := h1.1 h
  exact Int.sign_eq_neg_one_of_neg (by omega)
 rw [if_neg h]
 have g1 : ¬ (a.num * (b.den : Int) < b.num * (a.den : Int)) := fun h' => h (h1.2 h')
 by_cases h' : b < a
 ·rw [if_pos h']
  have := h2.1 h'
  exact Int.sign_eq_one_of_pos (by omega)
 rw [if_neg h']
 have g2 : ¬ (b.num * (a.den : Int) < a.num * (b.den : Int)) := fun aQ => h' (h2.2 aQ)
 have : a.num * (b.den : Int) - b.num * (a.den : Int) = 0 := by omega
 rw [this]
 rfl
theorem QS.blens {m : Nat} {q : Rat} (h : QS m q) (hm : m <= 274877906944) : Je q.num.natAbs <= 274877906944 /\ Je ((q.den : Int)).natAbs <= 274877906944 := ⟨nt h.1 hm, by rw [Int.natAbs_natCast]; exact nt h.2 hm⟩
theorem Jrd {x y : Int} {m n : Nat} (hx : Je x.natAbs <= m) (hy : Je y.natAbs <= n) : Je (x * y).natAbs <= m + n := by
 rw [Int.natAbs_mul]
 have := Jav x.natAbs y.natAbs
 omega
theorem Jrp (q : Rat) (B : Nat) (V : Value) (w : World) (h : IsQ w B V q) (bC : B <= w.heap.size) : Calls Tryz.prog 117 #[V] w (Jiv (q.den : Int) w) := by
 obtain ⟨n0, A0, l0, c0c, A9, l9, c9c, rfl⟩ := h.shape
 have H := lh h.parts.2.2
 clear h
 obtain ⟨b0, b1, hB, hZ⟩ := bx2 w 28 #[.bool n0, .slice A0 l0 c0c, .slice A9 l9 c9c] 26 #[.bool false, .slice none 0 0]
 go_enter Tryz.func117, Tryz.ntmps117
 go_wp2_with fail
 generalize ((w.alloc (.cells #[.bool n0, .slice A0 l0 c0c, .slice A9 l9 c9c] 28)).alloc (.cells #[.bool false, .slice none 0 0] 26)) = W at *
 have aH : B <= W.heap.size := nt bC hB.size
 have aI : ∀ w', Below W.heap.size W w' -> Calls Tryz.prog 115 #[.bool false, .slice A9 l9 c9c] w' (Jiv (q.den : Int) w') := fun w' hb => Je1 false q.den B _ w' ((H.out.next bC hB).next aH hb) (nt aH hb.size)
 have HMK := lh aI
 clear aI
 have c0 := b0; have aD := c0.lt; obtain ⟨aZ, bA, y9⟩ := c0.c3; have c1 := b1; have aE := c1.lt; have hc := Below.refl W.heap.size W; go_wp2_with fail; refine (HMK.out _ hc).mono ?_; rintro e w1 ⟨v1, rfl, j0, bD⟩; obtain ⟨g1, A1, l1, c1c, aK⟩ := j0.shape; subst aK; (try clear aZ bA y9); obtain ⟨c0, aZ, bA, y9⟩ := c0.zc3 bD; (try clear aD); have aD := c0.lt; have c1 := c1.below bD c1.lt; (try clear aE); have aE := c1.lt; have hc := Ja hc bD; obtain ⟨aA, aB, aR, aS, aL, aM⟩ := c1.f2
 go_wp2
 refine bodyPost_ret (v := .agg #[.bool g1, .slice A1 l1 c1c]) (by simp [results, Tryz.results117, go_sem, aL, aM]) rfl ?_
 exact Ja6 hB hc j0 c1 (by omega)
theorem Jqv (q : Rat) (B : Nat) (V : Value) (w : World) (h : IsQ w B V q) (bC : B <= w.heap.size) : Calls Tryz.prog 56 #[V] w (Ret (.int .i64 q.num.sign) w) := by
 obtain ⟨n0, A0, l0, c0c, A9, l9, c9c, rfl⟩ := h.shape
 have H := lh h.num
 clear h
 obtain ⟨b0, hB, hZ⟩ := bx1 w 28 #[.bool n0, .slice A0 l0 c0c, .slice A9 l9 c9c]
 go_enter Tryz.func56, Tryz.ntmps56
 go_wp2_with fail
 generalize (w.alloc (.cells #[.bool n0, .slice A0 l0 c0c, .slice A9 l9 c9c] 28)) = W at *
 have hs := Jpr q.num B _ W (H.out.next bC hB)
 generalize q.num.sign = z at *
 have HS := lh hs
 clear hs H
 obtain ⟨o9, bB, p9⟩ := b0.c3
 refine HS.out.mono ?_
 rintro e w1 ⟨rfl, bD⟩
 go_wp2
 go_ret
 exact ⟨rfl, Ja hB bD⟩
theorem Jrx (a b : Rat) (B : Nat) (V1 V2 : Value) (w : World) (h1 : IsQ w B V1 a) (h2 : IsQ w B V2 b) (bC : B <= w.heap.size) (ha : QS 68719476736 a) (hb : QS 68719476736 b) :
  Calls Tryz.prog 76 #[V1, V2] w (Ret (.int .i64 (Jc2 a b)) w) := by
 obtain ⟨n0, A0, l0, c0c, A0', l0', c0c', rfl⟩ := h1.shape
 obtain ⟨n9, A9, l9, c9c, A9', l9', c9c', rfl⟩ := h2.shape
 have H1 := lh h1
 have H2 := lh h2
 obtain ⟨s1, s2⟩ := ha.blens (by omega)
 obtain ⟨s3, s4⟩ := hb.blens (by omega)
 have s5 : Je (a.num * (b.den : Int)).natAbs <= 274877906944 := nt (Jrd ha.1 (by rw [Int.natAbs_natCast]; exact hb.2)) (by omega)
 have s6 : Je (b.num * (a.den : Int)).natAbs <= 274877906944 := nt (Jrd hb.1 (by rw [Int.natAbs_natCast]; exact ha.2)) (by omega)
 have aI : ∀ w' V V', IsI w' w'.heap.size V (a.num * (b.den : Int)) -> IsI w' w'.heap.size V' (b.num * (a.den : Int)) -> Calls Tryz.prog 118 #[V, V'] w' (Ret (.int .i64 (Jc2 a b)) w') := fun w' V V' g1 g2 => by
  have := Jrl _ _ _ V V' w' g1 g2 zd s5 s6
  rw [Jrw] at this
  exact this
 have HMK := lh aI
 clear aI h1 h2 ha hb
 generalize Jc2 a b = cv at *
 obtain ⟨b0, b1, hB, hZ⟩ := bx2 w 28 #[.bool n0, .slice A0 l0 c0c, .slice A0' l0' c0c'] 28 #[.bool n9, .slice A9 l9 c9c, .slice A9' l9' c9c']
 go_enter Tryz.func76, Tryz.ntmps76
 go_upto_region 1 with fail
 generalize ((w.alloc (.cells #[.bool n0, .slice A0 l0 c0c, .slice A0' l0' c0c'] 28)).alloc (.cells #[.bool n9, .slice A9 l9 c9c, .slice A9' l9' c9c'] 28)) = W at *
 have aH : B <= W.heap.size := nt bC hB.size
 have G1 : Hid (∀ w', Below W.heap.size W w' -> IsQ w' w'.heap.size (.agg #[.bool n0, .slice A0 l0 c0c, .slice A0' l0' c0c']) a) := lh fun w' hb => ((H1.out.next bC hB).next aH hb).more (nt aH hb.size)
 have G2 : Hid (∀ w', Below W.heap.size W w' -> IsQ w' w'.heap.size (.agg #[.bool n9, .slice A9 l9 c9c, .slice A9' l9' c9c']) b) := lh fun w' hb => ((H2.out.next bC hB).next aH hb).more (nt aH hb.size)
 clear H1 H2
 obtain ⟨o9, bB, p9⟩ := b0.c3; obtain ⟨aN, aO, aP⟩ := b1.c3
 obtain ⟨o9, bB, p9⟩ := b0.c3; have c0 := b0.drew; have aD := c0.lt; obtain ⟨aN, aO, aP⟩ := b1.c3; have c1 := b1.drew; have aE := c1.lt; have hc := Jt W; go_region_held3 (fun w' => w'.cell? ⟨w.heap.size, 0, none⟩ = some (.bool n0) /\ w'.cell? ⟨w.heap.size, 1, none⟩ = some (.slice A0 l0 c0c) /\ w'.cell? ⟨w.heap.size, 2, none⟩ = some (.slice A0' l0' c0c') /\ w'.cell? ⟨w.heap.size + 1, 0, none⟩ = some (.bool n9) /\ w'.cell? ⟨w.heap.size + 1, 1, none⟩ = some (.slice A9 l9 c9c) /\ w'.cell? ⟨w.heap.size + 1, 2, none⟩ = some (.slice A9' l9' c9c')) (go_keep) (first | ((first | (go_at_call 117; (with_reducible refine (Jrp b _ _ _ (G2.out _ hc) zd).mono ?_); rintro e w1 ⟨v1, rfl, j0, aW⟩; obtain ⟨g1, A1, l1, c1c, aK⟩ := j0.shape; subst aK) | (go_at_call 114; (with_reducible refine (Jrc _ _ _ _ _ _ (G1.out _ hc).num j0 zd s1 s4).mono ?_); rintro e w2 ⟨v2, rfl, aX, aW⟩; obtain ⟨g2, A2, l2, c2c, aT⟩ := aX.shape; subst aT; have j0 := (j0.next zd aW).more aW.size) | (go_at_call 117; (with_reducible refine (Jrp a _ _ _ (G1.out _ hc) zd).mono ?_); rintro e w3 ⟨v3, rfl, aY, aW⟩; obtain ⟨g3, A3, l3, c3c, aU⟩ := aY.shape; subst aU; have j0 := (j0.next zd aW).more aW.size; have aX := (aX.next zd aW).more aW.size) | (go_at_call 114; (with_reducible refine (Jrc _ _ _ _ _ _ (G2.out _ hc).num aY zd s3 s2).mono ?_); rintro e w4 ⟨v4, rfl, aJ, aW⟩; obtain ⟨g4, A4, l4, c4c, aV⟩ := aJ.shape; subst aV; have j0 := (j0.next zd aW).more aW.size; have aX := (aX.next zd aW).more aW.size; have aY := (aY.next zd aW).more aW.size) | (go_at_call 118; (with_reducible refine (HMK.out _ _ _ aX aJ).mono ?_); rintro e w5 ⟨rfl, aW⟩; have j0 := (j0.next zd aW).more aW.size; have aX := (aX.next zd aW).more aW.size; have aY := (aY.next zd aW).more aW.size; have aJ := (aJ.next zd aW).more aW.size)); (try clear aZ bA y9); obtain ⟨c0, aZ, bA, y9⟩ := c0.zc3 aW; (try clear aD); have aD := c0.lt; (try clear aA aB aC); obtain ⟨c1, aA, aB, aC⟩ := c1.zc3 aW; (try clear aE); have aE := c1.lt; have hc := Ja hc aW))
 all_goals
  go_wp2
  go_ret
  exact ⟨rfl, Ja hB hc⟩
theorem Jus (z : Int) (w : World) (h0 : -9223372036854775808 <= z) (h1 : z <= 9223372036854775807) : Calls Tryz.prog 48 #[.int .i64 z] w (Jmv (z : Rat) w) := by
 have H1 := lh h0
 have H2 := lh h1
 clear h0 h1
 obtain ⟨b0, hB, hZ⟩ := bx1 w 28 #[.bool false, .slice none 0 0, .slice none 0 0]
 go_enter Tryz.func48, Tryz.ntmps48
 go_wp2_with fail
 generalize (w.alloc (.cells #[.bool false, .slice none 0 0, .slice none 0 0] 28)) = W at *
 refine (Jd5 z W H1.out H2.out).mono ?_
 rintro e w1 ⟨v1, rfl, j0, bD⟩
 obtain ⟨g1, A1, l1, c1c, rfl⟩ := j0.shape
 have b0 := b0.below bD b0.lt
 go_wp2_with fail
 refine (Ja8 1 w1 (by omega)).mono ?_
 rintro e w2 ⟨v2, rfl, aX, j6⟩
 obtain ⟨A2, l2, c2c, rfl⟩ := aX.form
 have j0 := (j0.next zd j6).more j6.size
 have b0 := b0.below j6 b0.lt
 obtain ⟨o9, bB, p9, bR, s9, bS, j7, j8, j9⟩ := b0.f3
 go_wp2
 refine bodyPost_ret (v := .agg #[.bool g1, .slice A1 l1 c1c, .slice A2 l2 c2c]) (by simp [results, Tryz.results48, go_sem, j7, j8, j9]) rfl ?_
 exact Jd4 hB (Ja bD j6) (IsQ.mk (q := (z : Rat)) j0 aX) b0 (by omega)
theorem Jk0 (n d : Int) (w : World) (h0 : -9223372036854775808 <= n) (h1 : n <= 9223372036854775807) (h2 : -9223372036854775808 <= d) (h3 : d <= 9223372036854775807) (hd : d ≠ 0) : Calls Tryz.prog 47 #[.int .i64 n, .int .i64 d] w (Jmv (Rat.divInt n d) w) := by
 have s1 : (Jd n.natAbs).length <= 17179869184 := nt (Jab _ 2 (Ze _ (by omega))) (by omega)
 have s2 : (Jd d.natAbs).length <= 17179869184 := nt (Jab _ 2 (Ze _ (by omega))) (by omega)
 have H1 := lh h0
 have H2 := lh h1
 have H3 := lh h2
 have H4 := lh h3
 have HD := lh hd
 clear h0 h1 h2 h3 hd
 obtain ⟨b0, hB, hZ⟩ := bx1 w 28 #[.bool false, .slice none 0 0, .slice none 0 0]
 go_enter Tryz.func47, Tryz.ntmps47
 go_wp2_with fail
 generalize (w.alloc (.cells #[.bool false, .slice none 0 0, .slice none 0 0] 28)) = W at *
 refine (Jd5 n W H1.out H2.out).mono ?_
 rintro e w1 ⟨v1, rfl, j0, bD⟩
 obtain ⟨g1, A1, l1, c1c, rfl⟩ := j0.shape
 have b0 := b0.below bD b0.lt
 go_wp2_with fail
 refine (Jd5 d w1 H3.out H4.out).mono ?_
 rintro e w2 ⟨v2, rfl, aX, j6⟩
 obtain ⟨g2, A2, l2, c2c, rfl⟩ := aX.shape
 have j0 := (j0.next zd j6).more j6.size
 have b0 := b0.below j6 b0.lt
 go_wp2_with fail
 refine (Jk1 n d _ _ _ w2 j0 aX zd s1 s2 HD.out).mono ?_
 rintro e w3 ⟨v3, rfl, aY, o0⟩
 obtain ⟨g3, A3, l3, c3c, A3', l3', c3c', rfl⟩ := aY.shape
 have b0 := b0.below o0 b0.lt
 obtain ⟨o9, bB, p9, bR, s9, bS, j7, j8, j9⟩ := b0.f3
 go_wp2
 refine bodyPost_ret (v := .agg #[.bool g3, .slice A3 l3 c3c, .slice A3' l3' c3c']) (by simp [results, Tryz.results47, go_sem, j7, j8, j9]) rfl ?_
 exact Jd4 hB (Ja (Ja bD j6) o0) aY b0 (by omega)
