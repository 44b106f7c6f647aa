import Derived.Test.YtecnjlcfoobepaaGreatDoorRefInt
import Derived.Test.YtecnjlcfoobepaaGreatDoorWholeM
namespace Go.Proofs.YtecnjlcfoobepaaGreatDoor
set_option maxRecDepth 100000
set_option maxHeartbeats 1000000
open Go.RowKit
set_option linter.unusedSimpArgs false
set_option linter.unusedVariables false
theorem make_add (a b : Rat) : Rat.divInt (a.num * (b.den : Int) + b.num * (a.den : Int)) ((a.den * b.den : Nat) : Int) = a + b := by
 rw [Rat.add_def', Rat.divInt_ofNat]
theorem make_mul (a b : Rat) : Rat.divInt (a.num * b.num) ((a.den * b.den : Nat) : Int) = a * b := by
 rw [Rat.mul_def', Rat.divInt_ofNat]
theorem sign_cmp (a b : Rat) : (a.num * (b.den : Int) - b.num * (a.den : Int)).sign = cmpQ a b := by
 have h1 := Rat.lt_iff a b
 have h2 := Rat.lt_iff b a
 unfold cmpQ
 by_cases h : a < b
 ·rw [if_pos h]
  have := h1.1 h
  exact Int.sign_eq_neg_one_of_neg (by omega)
 rw [if_neg h]
 have g1 : ¬ (a.num * (b.den : Int) < b.num * (a.den : Int)) := fun h' => h (h1.2 h')
 by_cases h' : b < a
 ·rw [if_pos h']
  have := h2.1 h'
  exact Int.sign_eq_one_of_pos (by omega)
 rw [if_neg h']
 have g2 : ¬ (b.num * (a.den : Int) < a.num * (b.den : Int)) := fun h'' => h' (h2.2 h'')
 have : a.num * (b.den : Int) - b.num * (a.den : Int) = 0 := by omega
 rw [this]
 rfl
theorem QS.blens {m : Nat} {q : Rat} (h : QS m q) (hm : m <= 274877906944) : blen q.num.natAbs <= 274877906944 /\ blen ((q.den : Int)).natAbs <= 274877906944 := ⟨nt h.1 hm, by rw [Int.natAbs_natCast]; exact nt h.2 hm⟩
theorem blen_zmul {x y : Int} {m n : Nat} (hx : blen x.natAbs <= m) (hy : blen y.natAbs <= n) : blen (x * y).natAbs <= m + n := by
 rw [Int.natAbs_mul]
 have := blen_mul x.natAbs y.natAbs
 omega
theorem blen_zadd {x y : Int} {m : Nat} (hx : blen x.natAbs <= m) (hy : blen y.natAbs <= m) : blen (x + y).natAbs <= m + 1 := by
 have h1 := blen_mono (Int.natAbs_add_le x y)
 have h2 := blen_add x.natAbs y.natAbs
 omega
theorem ref_den (q : Rat) (B : Nat) (V : Value) (w : World) (h : IsQ w B V q) (hBB : B <= w.heap.size) : Calls Tryz.prog 93 #[V] w (RetI (q.den : Int) w) := by
 obtain ⟨n0, A0, l0, c0c, A9, l9, c9c, rfl⟩ := h.shape
 have H := lh h.parts.2.2
 clear h
 have b0 := (Blk.new w  70 #[.bool n0, .slice A0 l0 c0c, .slice A9 l9 c9c]).alloc (.cells #[.bool false, .slice none 0 0] 68); have b1 := Blk.new2 w (.cells #[.bool n0, .slice A0 l0 c0c, .slice A9 l9 c9c] 70) 68 #[.bool false, .slice none 0 0]; have hB := balloc2 w (.cells #[.bool n0, .slice A0 l0 c0c, .slice A9 l9 c9c] 70) (.cells #[.bool false, .slice none 0 0] 68); have hZ := lh (show ((w.alloc (.cells #[.bool n0, .slice A0 l0 c0c, .slice A9 l9 c9c] 70)).alloc (.cells #[.bool false, .slice none 0 0] 68)).heap.size = w.heap.size + 1 + 1 from by simp)
 go_enter Tryz.func93, Tryz.ntmps93
 go_wp2_with fail
 generalize ((w.alloc (.cells #[.bool n0, .slice A0 l0 c0c, .slice A9 l9 c9c] 70)).alloc (.cells #[.bool false, .slice none 0 0] 68)) = W at *
 have hBW : B <= W.heap.size := nt hBB hB.size
 have hmk : ∀ w', Below W.heap.size W w' -> Calls Tryz.prog 115 #[.bool false, .slice A9 l9 c9c] w' (RetI (q.den : Int) w') := fun w' hb => ref_mkI false q.den B _ w' ((H.out.next hBB hB).next hBW hb) (nt hBW hb.size)
 have HMK := lh hmk
 clear hmk
 have c0 := b0; have c0l := c0.lt; obtain ⟨c0q0, c0q1, c0q2⟩ := c0.c3; have c1 := b1; have c1l := c1.lt; have hc := Below.refl W.heap.size W; go_wp2_with fail; refine (HMK.out _ hc).mono ?_; rintro e w1 ⟨v1, rfl, hR1, hw1⟩; obtain ⟨g1, A1, l1, c1c, hv1⟩ := hR1.shape; subst hv1; have c0 := c0.below hw1 c0.lt; (try clear c0q0 c0q1 c0q2); obtain ⟨c0q0, c0q1, c0q2⟩ := c0.c3; (try clear c0l); have c0l := c0.lt; have c1 := c1.below hw1 c1.lt; (try clear c1l); have c1l := c1.lt; have hc := bthen hc hw1; obtain ⟨c1q0, c1q1, c1f0, c1f1, c1s0, c1s1⟩ := c1.f2
 go_wp2
 refine bodyPost_ret (v := .agg #[.bool g1, .slice A1 l1 c1c]) (by simp [results, Tryz.results93, go_sem, c1s0, c1s1]) rfl ?_
 exact retI_done hB hc hR1 c1 (by omega)
theorem ref_sign (q : Rat) (B : Nat) (V : Value) (w : World) (h : IsQ w B V q) (hBB : B <= w.heap.size) : Calls Tryz.prog 56 #[V] w (Ret (.int .i64 q.num.sign) w) := by
 obtain ⟨n0, A0, l0, c0c, A9, l9, c9c, rfl⟩ := h.shape
 have H := lh h.num
 clear h
 have b0 := Blk.new w  70 #[.bool n0, .slice A0 l0 c0c, .slice A9 l9 c9c]; have hB := balloc1 w (.cells #[.bool n0, .slice A0 l0 c0c, .slice A9 l9 c9c] 70); have hZ := lh (show (w.alloc (.cells #[.bool n0, .slice A0 l0 c0c, .slice A9 l9 c9c] 70)).heap.size = w.heap.size + 1 from by simp)
 go_enter Tryz.func56, Tryz.ntmps56
 go_wp2_with fail
 generalize (w.alloc (.cells #[.bool n0, .slice A0 l0 c0c, .slice A9 l9 c9c] 70)) = W at *
 have hs := ref_intSign q.num B _ W (H.out.next hBB hB)
 generalize q.num.sign = z at *
 have HS := lh hs
 clear hs H
 obtain ⟨b0q0, b0q1, b0q2⟩ := b0.c3
 refine HS.out.mono ?_
 rintro e w1 ⟨rfl, hw1⟩
 go_wp2
 go_ret
 exact ⟨rfl, bthen hB hw1⟩
theorem ref_add (a b : Rat) (B : Nat) (V1 V2 : Value) (w : World) (h1 : IsQ w B V1 a) (h2 : IsQ w B V2 b) (hBB : B <= w.heap.size) (ha : QS 68719476736 a) (hb : QS 68719476736 b) :
  Calls Tryz.prog 95 #[V1, V2] w (RetQ (a + b) w) := by
 obtain ⟨n0, A0, l0, c0c, A0', l0', c0c', rfl⟩ := h1.shape
 obtain ⟨n9, A9, l9, c9c, A9', l9', c9c', rfl⟩ := h2.shape
 have H1 := lh h1
 have H2 := lh h2
 obtain ⟨s1, s2⟩ := ha.blens (by omega)
 obtain ⟨s3, s4⟩ := hb.blens (by omega)
 have s5 : blen (a.num * (b.den : Int)).natAbs <= 274877906944 := nt (blen_zmul ha.1 (by rw [Int.natAbs_natCast]; exact hb.2)) (by omega)
 have s6 : blen (b.num * (a.den : Int)).natAbs <= 274877906944 := nt (blen_zmul hb.1 (by rw [Int.natAbs_natCast]; exact ha.2)) (by omega)
 have s7 : (limbs a.den).length <= 34359738368 := limbsZ (by rw [Int.natAbs_natCast] at s2; exact s2) (by omega)
 have s8 : (limbs b.den).length <= 34359738368 := limbsZ (by rw [Int.natAbs_natCast] at s4; exact s4) (by omega)
 have hmk : ∀ w' V V', IsI w' w'.heap.size V (a.num * (b.den : Int) + b.num * (a.den : Int)) -> IsI w' w'.heap.size V' ((a.den * b.den : Nat) : Int) -> Calls Tryz.prog 76 #[V, V'] w' (RetQ (a + b) w') := fun w' V V' g1 g2 => by
  have := ref_make _ _ _ V V' w' g1 g2 zd (limbsZ (nt (blen_zadd (m := 137438953472) (nt (blen_zmul ha.1 (by rw [Int.natAbs_natCast]; exact hb.2)) (by omega)) (nt (blen_zmul hb.1 (by rw [Int.natAbs_natCast]; exact ha.2)) (by omega))) (by omega)) (by omega))
   (limbsZ (by rw [Int.natAbs_natCast]; exact nt (blen_mul _ _) (by have := ha.2; have := hb.2; omega)) (by omega)) (by have h1 := a.den_nz; have h2 := b.den_nz; have := Nat.mul_ne_zero h1 h2; omega)
  rw [make_add] at this
  exact this
 have HMK := lh hmk
 clear hmk h1 h2 ha hb
 obtain ⟨N1, hN1⟩ : ∃ N1, a.num = N1 := ⟨_, rfl⟩
 obtain ⟨N2, hN2⟩ : ∃ N2, b.num = N2 := ⟨_, rfl⟩
 have b0 := ((Blk.new w  70 #[.bool n0, .slice A0 l0 c0c, .slice A0' l0' c0c']).alloc (.cells #[.bool n9, .slice A9 l9 c9c, .slice A9' l9' c9c'] 70)).alloc (.cells #[.bool false, .slice none 0 0, .slice none 0 0] 70); have b1 := (Blk.new2 w (.cells #[.bool n0, .slice A0 l0 c0c, .slice A0' l0' c0c'] 70) 70 #[.bool n9, .slice A9 l9 c9c, .slice A9' l9' c9c']).alloc (.cells #[.bool false, .slice none 0 0, .slice none 0 0] 70); have b2 := Blk.new3 w (.cells #[.bool n0, .slice A0 l0 c0c, .slice A0' l0' c0c'] 70) (.cells #[.bool n9, .slice A9 l9 c9c, .slice A9' l9' c9c'] 70) 70 #[.bool false, .slice none 0 0, .slice none 0 0]; have hB := balloc3 w (.cells #[.bool n0, .slice A0 l0 c0c, .slice A0' l0' c0c'] 70) (.cells #[.bool n9, .slice A9 l9 c9c, .slice A9' l9' c9c'] 70) (.cells #[.bool false, .slice none 0 0, .slice none 0 0] 70); have hZ := lh (show (((w.alloc (.cells #[.bool n0, .slice A0 l0 c0c, .slice A0' l0' c0c'] 70)).alloc (.cells #[.bool n9, .slice A9 l9 c9c, .slice A9' l9' c9c'] 70)).alloc (.cells #[.bool false, .slice none 0 0, .slice none 0 0] 70)).heap.size = w.heap.size + 1 + 1 + 1 from by simp)
 have ne1 : ¬ w.heap.size = w.heap.size + 1 + 1 := by omega
 have ne2 : ¬ w.heap.size + 1 = w.heap.size + 1 + 1 := by omega
 have ne3 : ¬ w.heap.size + 1 + 1 = w.heap.size := by omega
 have ne4 : ¬ w.heap.size + 1 + 1 = w.heap.size + 1 := by omega
 clear hN1 hN2 N1 N2
 go_enter Tryz.func95, Tryz.ntmps95
 go_upto_region 1 with fail
 generalize (((w.alloc (.cells #[.bool n0, .slice A0 l0 c0c, .slice A0' l0' c0c'] 70)).alloc (.cells #[.bool n9, .slice A9 l9 c9c, .slice A9' l9' c9c'] 70)).alloc (.cells #[.bool false, .slice none 0 0, .slice none 0 0] 70)) = W at *
 have hBW : B <= W.heap.size := nt hBB hB.size
 have G1 : Hid (∀ w', Below W.heap.size W w' -> IsQ w' w'.heap.size (.agg #[.bool n0, .slice A0 l0 c0c, .slice A0' l0' c0c']) a) := lh fun w' hb => ((H1.out.next hBB hB).next hBW hb).more (nt hBW hb.size)
 have G2 : Hid (∀ w', Below W.heap.size W w' -> IsQ w' w'.heap.size (.agg #[.bool n9, .slice A9 l9 c9c, .slice A9' l9' c9c']) b) := lh fun w' hb => ((H2.out.next hBB hB).next hBW hb).more (nt hBW hb.size)
 clear H1 H2
 obtain ⟨b0q0, b0q1, b0q2⟩ := b0.c3; obtain ⟨b1q0, b1q1, b1q2⟩ := b1.c3
 obtain ⟨b0q0, b0q1, b0q2⟩ := b0.c3; have c0 := b0.drew; have c0l := c0.lt; obtain ⟨b1q0, b1q1, b1q2⟩ := b1.c3; have c1 := b1.drew; have c1l := c1.lt; have c2 := b2.drew; have c2l := c2.lt; have hc := bdrew0 W; go_region_held3 (fun w' => w'.cell? ⟨w.heap.size, 0, none⟩ = some (.bool n0) /\ w'.cell? ⟨w.heap.size, 1, none⟩ = some (.slice A0 l0 c0c) /\ w'.cell? ⟨w.heap.size, 2, none⟩ = some (.slice A0' l0' c0c') /\ w'.cell? ⟨w.heap.size + 1, 0, none⟩ = some (.bool n9) /\ w'.cell? ⟨w.heap.size + 1, 1, none⟩ = some (.slice A9 l9 c9c) /\ w'.cell? ⟨w.heap.size + 1, 2, none⟩ = some (.slice A9' l9' c9c')) (go_keep) (first | (go_at_call 93; (with_reducible refine (ref_den b _ _ _ (G2.out _ hc) zd).mono ?_); rintro e w1 ⟨v1, rfl, hR1, hw1⟩; obtain ⟨g1, A1, l1, c1c, hv1⟩ := hR1.shape; subst hv1; have c0 := c0.below hw1 c0.lt; (try clear c0q0 c0q1 c0q2); obtain ⟨c0q0, c0q1, c0q2⟩ := c0.c3; (try clear c0l); have c0l := c0.lt; have c1 := c1.below hw1 c1.lt; (try clear c1q0 c1q1 c1q2); obtain ⟨c1q0, c1q1, c1q2⟩ := c1.c3; (try clear c1l); have c1l := c1.lt; have c2 := c2.below hw1 c2.lt; (try clear c2l); have c2l := c2.lt; have hc := bthen hc hw1) | (go_at_call 92; (with_reducible refine (ref_intMul _ _ _ _ _ _ (G1.out _ hc).num hR1 zd s1 s4).mono ?_); rintro e w2 ⟨v2, rfl, hR2, hw2⟩; obtain ⟨g2, A2, l2, c2c, hv2⟩ := hR2.shape; subst hv2; have c0 := c0.below hw2 c0.lt; (try clear c0q0 c0q1 c0q2); obtain ⟨c0q0, c0q1, c0q2⟩ := c0.c3; (try clear c0l); have c0l := c0.lt; have c1 := c1.below hw2 c1.lt; (try clear c1q0 c1q1 c1q2); obtain ⟨c1q0, c1q1, c1q2⟩ := c1.c3; (try clear c1l); have c1l := c1.lt; have c2 := c2.below hw2 c2.lt; (try clear c2l); have c2l := c2.lt; have hR1 := (hR1.next zd hw2).more hw2.size; have hc := bthen hc hw2) | (go_at_call 93; (with_reducible refine (ref_den a _ _ _ (G1.out _ hc) zd).mono ?_); rintro e w3 ⟨v3, rfl, hR3, hw3⟩; obtain ⟨g3, A3, l3, c3c, hv3⟩ := hR3.shape; subst hv3; have c0 := c0.below hw3 c0.lt; (try clear c0q0 c0q1 c0q2); obtain ⟨c0q0, c0q1, c0q2⟩ := c0.c3; (try clear c0l); have c0l := c0.lt; have c1 := c1.below hw3 c1.lt; (try clear c1q0 c1q1 c1q2); obtain ⟨c1q0, c1q1, c1q2⟩ := c1.c3; (try clear c1l); have c1l := c1.lt; have c2 := c2.below hw3 c2.lt; (try clear c2l); have c2l := c2.lt; have hR1 := (hR1.next zd hw3).more hw3.size; have hR2 := (hR2.next zd hw3).more hw3.size; have hc := bthen hc hw3) | (go_at_call 92; (with_reducible refine (ref_intMul _ _ _ _ _ _ (G2.out _ hc).num hR3 zd s3 s2).mono ?_); rintro e w4 ⟨v4, rfl, hR4, hw4⟩; obtain ⟨g4, A4, l4, c4c, hv4⟩ := hR4.shape; subst hv4; have c0 := c0.below hw4 c0.lt; (try clear c0q0 c0q1 c0q2); obtain ⟨c0q0, c0q1, c0q2⟩ := c0.c3; (try clear c0l); have c0l := c0.lt; have c1 := c1.below hw4 c1.lt; (try clear c1q0 c1q1 c1q2); obtain ⟨c1q0, c1q1, c1q2⟩ := c1.c3; (try clear c1l); have c1l := c1.lt; have c2 := c2.below hw4 c2.lt; (try clear c2l); have c2l := c2.lt; have hR1 := (hR1.next zd hw4).more hw4.size; have hR2 := (hR2.next zd hw4).more hw4.size; have hR3 := (hR3.next zd hw4).more hw4.size; have hc := bthen hc hw4) | (go_at_call 129; (with_reducible refine (ref_intAdd _ _ _ _ _ _ hR2 hR4 zd s5 s6).mono ?_); rintro e w5 ⟨v5, rfl, hR5, hw5⟩; obtain ⟨g5, A5, l5, c5c, hv5⟩ := hR5.shape; subst hv5; have c0 := c0.below hw5 c0.lt; (try clear c0q0 c0q1 c0q2); obtain ⟨c0q0, c0q1, c0q2⟩ := c0.c3; (try clear c0l); have c0l := c0.lt; have c1 := c1.below hw5 c1.lt; (try clear c1q0 c1q1 c1q2); obtain ⟨c1q0, c1q1, c1q2⟩ := c1.c3; (try clear c1l); have c1l := c1.lt; have c2 := c2.below hw5 c2.lt; (try clear c2l); have c2l := c2.lt; have hR1 := (hR1.next zd hw5).more hw5.size; have hR2 := (hR2.next zd hw5).more hw5.size; have hR3 := (hR3.next zd hw5).more hw5.size; have hR4 := (hR4.next zd hw5).more hw5.size; have hc := bthen hc hw5) | (go_at_call 127; (with_reducible refine (ref_natMul _ _ _ _ _ _ (G1.out _ hc).parts.2.2 (G2.out _ hc).parts.2.2 zd s7 s8).mono ?_); rintro e w6 ⟨v6, rfl, hR6, hw6⟩; obtain ⟨A6, l6, c6c, hv6⟩ := hR6.form; subst hv6; have c0 := c0.below hw6 c0.lt; (try clear c0q0 c0q1 c0q2); obtain ⟨c0q0, c0q1, c0q2⟩ := c0.c3; (try clear c0l); have c0l := c0.lt; have c1 := c1.below hw6 c1.lt; (try clear c1q0 c1q1 c1q2); obtain ⟨c1q0, c1q1, c1q2⟩ := c1.c3; (try clear c1l); have c1l := c1.lt; have c2 := c2.below hw6 c2.lt; (try clear c2l); have c2l := c2.lt; have hR1 := (hR1.next zd hw6).more hw6.size; have hR2 := (hR2.next zd hw6).more hw6.size; have hR3 := (hR3.next zd hw6).more hw6.size; have hR4 := (hR4.next zd hw6).more hw6.size; have hR5 := (hR5.next zd hw6).more hw6.size; have hc := bthen hc hw6) | (go_at_call 115; (with_reducible refine (ref_mkI false _ _ _ _ hR6 zd).mono ?_); rintro e w7 ⟨v7, rfl, hR7, hw7⟩; obtain ⟨g7, A7, l7, c7c, hv7⟩ := hR7.shape; subst hv7; have c0 := c0.below hw7 c0.lt; (try clear c0q0 c0q1 c0q2); obtain ⟨c0q0, c0q1, c0q2⟩ := c0.c3; (try clear c0l); have c0l := c0.lt; have c1 := c1.below hw7 c1.lt; (try clear c1q0 c1q1 c1q2); obtain ⟨c1q0, c1q1, c1q2⟩ := c1.c3; (try clear c1l); have c1l := c1.lt; have c2 := c2.below hw7 c2.lt; (try clear c2l); have c2l := c2.lt; have hR1 := (hR1.next zd hw7).more hw7.size; have hR2 := (hR2.next zd hw7).more hw7.size; have hR3 := (hR3.next zd hw7).more hw7.size; have hR4 := (hR4.next zd hw7).more hw7.size; have hR5 := (hR5.next zd hw7).more hw7.size; have hR6 := (hR6.next zd hw7).more hw7.size; have hc := bthen hc hw7) | (go_at_call 76; (with_reducible refine (HMK.out _ _ _ hR5 hR7).mono ?_); rintro e w8 ⟨v8, rfl, hR8, hw8⟩; obtain ⟨g8, A8, l8, c8c, A8', l8', c8c', hv8⟩ := hR8.shape; subst hv8; have c0 := c0.below hw8 c0.lt; (try clear c0q0 c0q1 c0q2); obtain ⟨c0q0, c0q1, c0q2⟩ := c0.c3; (try clear c0l); have c0l := c0.lt; have c1 := c1.below hw8 c1.lt; (try clear c1q0 c1q1 c1q2); obtain ⟨c1q0, c1q1, c1q2⟩ := c1.c3; (try clear c1l); have c1l := c1.lt; have c2 := c2.below hw8 c2.lt; (try clear c2l); have c2l := c2.lt; have hR1 := (hR1.next zd hw8).more hw8.size; have hR2 := (hR2.next zd hw8).more hw8.size; have hR3 := (hR3.next zd hw8).more hw8.size; have hR4 := (hR4.next zd hw8).more hw8.size; have hR5 := (hR5.next zd hw8).more hw8.size; have hR6 := (hR6.next zd hw8).more hw8.size; have hR7 := (hR7.next zd hw8).more hw8.size; have hc := bthen hc hw8; obtain ⟨c2q0, c2q1, c2q2, c2f0, c2f1, c2f2, c2s0, c2s1, c2s2⟩ := c2.f3))
 all_goals
  go_wp2
  refine bodyPost_ret (v := .agg #[.bool g8, .slice A8 l8 c8c, .slice A8' l8' c8c']) (by simp [results, Tryz.results95, go_sem, c2s0, c2s1, c2s2]) rfl ?_
  exact retQ_done hB hc hR8 c2 (by omega)
theorem ref_mul (a b : Rat) (B : Nat) (V1 V2 : Value) (w : World) (h1 : IsQ w B V1 a) (h2 : IsQ w B V2 b) (hBB : B <= w.heap.size) (ha : QS 68719476736 a) (hb : QS 68719476736 b) :
  Calls Tryz.prog 96 #[V1, V2] w (RetQ (a * b) w) := by
 obtain ⟨n0, A0, l0, c0c, A0', l0', c0c', rfl⟩ := h1.shape
 obtain ⟨n9, A9, l9, c9c, A9', l9', c9c', rfl⟩ := h2.shape
 have H1 := lh h1
 have H2 := lh h2
 obtain ⟨s1, s2⟩ := ha.blens (by omega)
 obtain ⟨s3, s4⟩ := hb.blens (by omega)
 have s7 : (limbs a.den).length <= 34359738368 := limbsZ (by rw [Int.natAbs_natCast] at s2; exact s2) (by omega)
 have s8 : (limbs b.den).length <= 34359738368 := limbsZ (by rw [Int.natAbs_natCast] at s4; exact s4) (by omega)
 have hmk : ∀ w' V V', IsI w' w'.heap.size V (a.num * b.num) -> IsI w' w'.heap.size V' ((a.den * b.den : Nat) : Int) -> Calls Tryz.prog 76 #[V, V'] w' (RetQ (a * b) w') := fun w' V V' g1 g2 => by
  have := ref_make _ _ _ V V' w' g1 g2 zd (limbsZ (nt (blen_zmul ha.1 hb.1) (by omega)) (by omega))
   (limbsZ (by rw [Int.natAbs_natCast]; exact nt (blen_mul _ _) (by have := ha.2; have := hb.2; omega)) (by omega)) (by have h1 := a.den_nz; have h2 := b.den_nz; have := Nat.mul_ne_zero h1 h2; omega)
  rw [make_mul] at this
  exact this
 have HMK := lh hmk
 clear hmk h1 h2 ha hb
 have b0 := ((Blk.new w  70 #[.bool n0, .slice A0 l0 c0c, .slice A0' l0' c0c']).alloc (.cells #[.bool n9, .slice A9 l9 c9c, .slice A9' l9' c9c'] 70)).alloc (.cells #[.bool false, .slice none 0 0, .slice none 0 0] 70); have b1 := (Blk.new2 w (.cells #[.bool n0, .slice A0 l0 c0c, .slice A0' l0' c0c'] 70) 70 #[.bool n9, .slice A9 l9 c9c, .slice A9' l9' c9c']).alloc (.cells #[.bool false, .slice none 0 0, .slice none 0 0] 70); have b2 := Blk.new3 w (.cells #[.bool n0, .slice A0 l0 c0c, .slice A0' l0' c0c'] 70) (.cells #[.bool n9, .slice A9 l9 c9c, .slice A9' l9' c9c'] 70) 70 #[.bool false, .slice none 0 0, .slice none 0 0]; have hB := balloc3 w (.cells #[.bool n0, .slice A0 l0 c0c, .slice A0' l0' c0c'] 70) (.cells #[.bool n9, .slice A9 l9 c9c, .slice A9' l9' c9c'] 70) (.cells #[.bool false, .slice none 0 0, .slice none 0 0] 70); have hZ := lh (show (((w.alloc (.cells #[.bool n0, .slice A0 l0 c0c, .slice A0' l0' c0c'] 70)).alloc (.cells #[.bool n9, .slice A9 l9 c9c, .slice A9' l9' c9c'] 70)).alloc (.cells #[.bool false, .slice none 0 0, .slice none 0 0] 70)).heap.size = w.heap.size + 1 + 1 + 1 from by simp)
 have ne1 : ¬ w.heap.size = w.heap.size + 1 + 1 := by omega
 have ne2 : ¬ w.heap.size + 1 = w.heap.size + 1 + 1 := by omega
 have ne3 : ¬ w.heap.size + 1 + 1 = w.heap.size := by omega
 have ne4 : ¬ w.heap.size + 1 + 1 = w.heap.size + 1 := by omega
 go_enter Tryz.func96, Tryz.ntmps96
 go_upto_region 1 with fail
 generalize (((w.alloc (.cells #[.bool n0, .slice A0 l0 c0c, .slice A0' l0' c0c'] 70)).alloc (.cells #[.bool n9, .slice A9 l9 c9c, .slice A9' l9' c9c'] 70)).alloc (.cells #[.bool false, .slice none 0 0, .slice none 0 0] 70)) = W at *
 have hBW : B <= W.heap.size := nt hBB hB.size
 have G1 : Hid (∀ w', Below W.heap.size W w' -> IsQ w' w'.heap.size (.agg #[.bool n0, .slice A0 l0 c0c, .slice A0' l0' c0c']) a) := lh fun w' hb => ((H1.out.next hBB hB).next hBW hb).more (nt hBW hb.size)
 have G2 : Hid (∀ w', Below W.heap.size W w' -> IsQ w' w'.heap.size (.agg #[.bool n9, .slice A9 l9 c9c, .slice A9' l9' c9c']) b) := lh fun w' hb => ((H2.out.next hBB hB).next hBW hb).more (nt hBW hb.size)
 clear H1 H2
 obtain ⟨b0q0, b0q1, b0q2⟩ := b0.c3; obtain ⟨b1q0, b1q1, b1q2⟩ := b1.c3
 obtain ⟨b0q0, b0q1, b0q2⟩ := b0.c3; have c0 := b0.drew; have c0l := c0.lt; obtain ⟨b1q0, b1q1, b1q2⟩ := b1.c3; have c1 := b1.drew; have c1l := c1.lt; have c2 := b2.drew; have c2l := c2.lt; have hc := bdrew0 W; go_region_held3 (fun w' => w'.cell? ⟨w.heap.size, 0, none⟩ = some (.bool n0) /\ w'.cell? ⟨w.heap.size, 1, none⟩ = some (.slice A0 l0 c0c) /\ w'.cell? ⟨w.heap.size, 2, none⟩ = some (.slice A0' l0' c0c') /\ w'.cell? ⟨w.heap.size + 1, 0, none⟩ = some (.bool n9) /\ w'.cell? ⟨w.heap.size + 1, 1, none⟩ = some (.slice A9 l9 c9c) /\ w'.cell? ⟨w.heap.size + 1, 2, none⟩ = some (.slice A9' l9' c9c')) (go_keep) (first | (go_at_call 92; (with_reducible refine (ref_intMul _ _ _ _ _ _ (G1.out _ hc).num (G2.out _ hc).num zd s1 s3).mono ?_); rintro e w1 ⟨v1, rfl, hR1, hw1⟩; obtain ⟨g1, A1, l1, c1c, hv1⟩ := hR1.shape; subst hv1; have c0 := c0.below hw1 c0.lt; (try clear c0q0 c0q1 c0q2); obtain ⟨c0q0, c0q1, c0q2⟩ := c0.c3; (try clear c0l); have c0l := c0.lt; have c1 := c1.below hw1 c1.lt; (try clear c1q0 c1q1 c1q2); obtain ⟨c1q0, c1q1, c1q2⟩ := c1.c3; (try clear c1l); have c1l := c1.lt; have c2 := c2.below hw1 c2.lt; (try clear c2l); have c2l := c2.lt; have hc := bthen hc hw1) | (go_at_call 127; (with_reducible refine (ref_natMul _ _ _ _ _ _ (G1.out _ hc).parts.2.2 (G2.out _ hc).parts.2.2 zd s7 s8).mono ?_); rintro e w2 ⟨v2, rfl, hR2, hw2⟩; obtain ⟨A2, l2, c2c, hv2⟩ := hR2.form; subst hv2; have c0 := c0.below hw2 c0.lt; (try clear c0q0 c0q1 c0q2); obtain ⟨c0q0, c0q1, c0q2⟩ := c0.c3; (try clear c0l); have c0l := c0.lt; have c1 := c1.below hw2 c1.lt; (try clear c1q0 c1q1 c1q2); obtain ⟨c1q0, c1q1, c1q2⟩ := c1.c3; (try clear c1l); have c1l := c1.lt; have c2 := c2.below hw2 c2.lt; (try clear c2l); have c2l := c2.lt; have hR1 := (hR1.next zd hw2).more hw2.size; have hc := bthen hc hw2) | (go_at_call 115; (with_reducible refine (ref_mkI false _ _ _ _ hR2 zd).mono ?_); rintro e w3 ⟨v3, rfl, hR3, hw3⟩; obtain ⟨g3, A3, l3, c3c, hv3⟩ := hR3.shape; subst hv3; have c0 := c0.below hw3 c0.lt; (try clear c0q0 c0q1 c0q2); obtain ⟨c0q0, c0q1, c0q2⟩ := c0.c3; (try clear c0l); have c0l := c0.lt; have c1 := c1.below hw3 c1.lt; (try clear c1q0 c1q1 c1q2); obtain ⟨c1q0, c1q1, c1q2⟩ := c1.c3; (try clear c1l); have c1l := c1.lt; have c2 := c2.below hw3 c2.lt; (try clear c2l); have c2l := c2.lt; have hR1 := (hR1.next zd hw3).more hw3.size; have hR2 := (hR2.next zd hw3).more hw3.size; have hc := bthen hc hw3) | (go_at_call 76; (with_reducible refine (HMK.out _ _ _ hR1 hR3).mono ?_); rintro e w4 ⟨v4, rfl, hR4, hw4⟩; obtain ⟨g4, A4, l4, c4c, A4', l4', c4c', hv4⟩ := hR4.shape; subst hv4; have c0 := c0.below hw4 c0.lt; (try clear c0q0 c0q1 c0q2); obtain ⟨c0q0, c0q1, c0q2⟩ := c0.c3; (try clear c0l); have c0l := c0.lt; have c1 := c1.below hw4 c1.lt; (try clear c1q0 c1q1 c1q2); obtain ⟨c1q0, c1q1, c1q2⟩ := c1.c3; (try clear c1l); have c1l := c1.lt; have c2 := c2.below hw4 c2.lt; (try clear c2l); have c2l := c2.lt; have hR1 := (hR1.next zd hw4).more hw4.size; have hR2 := (hR2.next zd hw4).more hw4.size; have hR3 := (hR3.next zd hw4).more hw4.size; have hc := bthen hc hw4; obtain ⟨c2q0, c2q1, c2q2, c2f0, c2f1, c2f2, c2s0, c2s1, c2s2⟩ := c2.f3))
 all_goals
  go_wp2
  refine bodyPost_ret (v := .agg #[.bool g4, .slice A4 l4 c4c, .slice A4' l4' c4c']) (by simp [results, Tryz.results96, go_sem, c2s0, c2s1, c2s2]) rfl ?_
  exact retQ_done hB hc hR4 c2 (by omega)
theorem ref_cmpQ (a b : Rat) (B : Nat) (V1 V2 : Value) (w : World) (h1 : IsQ w B V1 a) (h2 : IsQ w B V2 b) (hBB : B <= w.heap.size) (ha : QS 68719476736 a) (hb : QS 68719476736 b) :
  Calls Tryz.prog 57 #[V1, V2] w (Ret (.int .i64 (cmpQ a b)) w) := by
 obtain ⟨n0, A0, l0, c0c, A0', l0', c0c', rfl⟩ := h1.shape
 obtain ⟨n9, A9, l9, c9c, A9', l9', c9c', rfl⟩ := h2.shape
 have H1 := lh h1
 have H2 := lh h2
 obtain ⟨s1, s2⟩ := ha.blens (by omega)
 obtain ⟨s3, s4⟩ := hb.blens (by omega)
 have s5 : blen (a.num * (b.den : Int)).natAbs <= 274877906944 := nt (blen_zmul ha.1 (by rw [Int.natAbs_natCast]; exact hb.2)) (by omega)
 have s6 : blen (b.num * (a.den : Int)).natAbs <= 274877906944 := nt (blen_zmul hb.1 (by rw [Int.natAbs_natCast]; exact ha.2)) (by omega)
 have hmk : ∀ w' V V', IsI w' w'.heap.size V (a.num * (b.den : Int)) -> IsI w' w'.heap.size V' (b.num * (a.den : Int)) -> Calls Tryz.prog 91 #[V, V'] w' (Ret (.int .i64 (cmpQ a b)) w') := fun w' V V' g1 g2 => by
  have := ref_intCmp _ _ _ V V' w' g1 g2 zd s5 s6
  rw [sign_cmp] at this
  exact this
 have HMK := lh hmk
 clear hmk h1 h2 ha hb
 generalize cmpQ a b = cv at *
 have b0 := (Blk.new w  70 #[.bool n0, .slice A0 l0 c0c, .slice A0' l0' c0c']).alloc (.cells #[.bool n9, .slice A9 l9 c9c, .slice A9' l9' c9c'] 70); have b1 := Blk.new2 w (.cells #[.bool n0, .slice A0 l0 c0c, .slice A0' l0' c0c'] 70) 70 #[.bool n9, .slice A9 l9 c9c, .slice A9' l9' c9c']; have hB := balloc2 w (.cells #[.bool n0, .slice A0 l0 c0c, .slice A0' l0' c0c'] 70) (.cells #[.bool n9, .slice A9 l9 c9c, .slice A9' l9' c9c'] 70); have hZ := lh (show ((w.alloc (.cells #[.bool n0, .slice A0 l0 c0c, .slice A0' l0' c0c'] 70)).alloc (.cells #[.bool n9, .slice A9 l9 c9c, .slice A9' l9' c9c'] 70)).heap.size = w.heap.size + 1 + 1 from by simp)
 go_enter Tryz.func57, Tryz.ntmps57
 go_upto_region 1 with fail
 generalize ((w.alloc (.cells #[.bool n0, .slice A0 l0 c0c, .slice A0' l0' c0c'] 70)).alloc (.cells #[.bool n9, .slice A9 l9 c9c, .slice A9' l9' c9c'] 70)) = W at *
 have hBW : B <= W.heap.size := nt hBB hB.size
 have G1 : Hid (∀ w', Below W.heap.size W w' -> IsQ w' w'.heap.size (.agg #[.bool n0, .slice A0 l0 c0c, .slice A0' l0' c0c']) a) := lh fun w' hb => ((H1.out.next hBB hB).next hBW hb).more (nt hBW hb.size)
 have G2 : Hid (∀ w', Below W.heap.size W w' -> IsQ w' w'.heap.size (.agg #[.bool n9, .slice A9 l9 c9c, .slice A9' l9' c9c']) b) := lh fun w' hb => ((H2.out.next hBB hB).next hBW hb).more (nt hBW hb.size)
 clear H1 H2
 obtain ⟨b0q0, b0q1, b0q2⟩ := b0.c3; obtain ⟨b1q0, b1q1, b1q2⟩ := b1.c3
 obtain ⟨b0q0, b0q1, b0q2⟩ := b0.c3; have c0 := b0.drew; have c0l := c0.lt; obtain ⟨b1q0, b1q1, b1q2⟩ := b1.c3; have c1 := b1.drew; have c1l := c1.lt; have hc := bdrew0 W; go_region_held3 (fun w' => w'.cell? ⟨w.heap.size, 0, none⟩ = some (.bool n0) /\ w'.cell? ⟨w.heap.size, 1, none⟩ = some (.slice A0 l0 c0c) /\ w'.cell? ⟨w.heap.size, 2, none⟩ = some (.slice A0' l0' c0c') /\ w'.cell? ⟨w.heap.size + 1, 0, none⟩ = some (.bool n9) /\ w'.cell? ⟨w.heap.size + 1, 1, none⟩ = some (.slice A9 l9 c9c) /\ w'.cell? ⟨w.heap.size + 1, 2, none⟩ = some (.slice A9' l9' c9c')) (go_keep) (first | (go_at_call 93; (with_reducible refine (ref_den b _ _ _ (G2.out _ hc) zd).mono ?_); rintro e w1 ⟨v1, rfl, hR1, hw1⟩; obtain ⟨g1, A1, l1, c1c, hv1⟩ := hR1.shape; subst hv1; have c0 := c0.below hw1 c0.lt; (try clear c0q0 c0q1 c0q2); obtain ⟨c0q0, c0q1, c0q2⟩ := c0.c3; (try clear c0l); have c0l := c0.lt; have c1 := c1.below hw1 c1.lt; (try clear c1q0 c1q1 c1q2); obtain ⟨c1q0, c1q1, c1q2⟩ := c1.c3; (try clear c1l); have c1l := c1.lt; have hc := bthen hc hw1) | (go_at_call 92; (with_reducible refine (ref_intMul _ _ _ _ _ _ (G1.out _ hc).num hR1 zd s1 s4).mono ?_); rintro e w2 ⟨v2, rfl, hR2, hw2⟩; obtain ⟨g2, A2, l2, c2c, hv2⟩ := hR2.shape; subst hv2; have c0 := c0.below hw2 c0.lt; (try clear c0q0 c0q1 c0q2); obtain ⟨c0q0, c0q1, c0q2⟩ := c0.c3; (try clear c0l); have c0l := c0.lt; have c1 := c1.below hw2 c1.lt; (try clear c1q0 c1q1 c1q2); obtain ⟨c1q0, c1q1, c1q2⟩ := c1.c3; (try clear c1l); have c1l := c1.lt; have hR1 := (hR1.next zd hw2).more hw2.size; have hc := bthen hc hw2) | (go_at_call 93; (with_reducible refine (ref_den a _ _ _ (G1.out _ hc) zd).mono ?_); rintro e w3 ⟨v3, rfl, hR3, hw3⟩; obtain ⟨g3, A3, l3, c3c, hv3⟩ := hR3.shape; subst hv3; have c0 := c0.below hw3 c0.lt; (try clear c0q0 c0q1 c0q2); obtain ⟨c0q0, c0q1, c0q2⟩ := c0.c3; (try clear c0l); have c0l := c0.lt; have c1 := c1.below hw3 c1.lt; (try clear c1q0 c1q1 c1q2); obtain ⟨c1q0, c1q1, c1q2⟩ := c1.c3; (try clear c1l); have c1l := c1.lt; have hR1 := (hR1.next zd hw3).more hw3.size; have hR2 := (hR2.next zd hw3).more hw3.size; have hc := bthen hc hw3) | (go_at_call 92; (with_reducible refine (ref_intMul _ _ _ _ _ _ (G2.out _ hc).num hR3 zd s3 s2).mono ?_); rintro e w4 ⟨v4, rfl, hR4, hw4⟩; obtain ⟨g4, A4, l4, c4c, hv4⟩ := hR4.shape; subst hv4; have c0 := c0.below hw4 c0.lt; (try clear c0q0 c0q1 c0q2); obtain ⟨c0q0, c0q1, c0q2⟩ := c0.c3; (try clear c0l); have c0l := c0.lt; have c1 := c1.below hw4 c1.lt; (try clear c1q0 c1q1 c1q2); obtain ⟨c1q0, c1q1, c1q2⟩ := c1.c3; (try clear c1l); have c1l := c1.lt; have hR1 := (hR1.next zd hw4).more hw4.size; have hR2 := (hR2.next zd hw4).more hw4.size; have hR3 := (hR3.next zd hw4).more hw4.size; have hc := bthen hc hw4) | (go_at_call 91; (with_reducible refine (HMK.out _ _ _ hR2 hR4).mono ?_); rintro e w5 ⟨rfl, hw5⟩; have c0 := c0.below hw5 c0.lt; (try clear c0q0 c0q1 c0q2); obtain ⟨c0q0, c0q1, c0q2⟩ := c0.c3; (try clear c0l); have c0l := c0.lt; have c1 := c1.below hw5 c1.lt; (try clear c1q0 c1q1 c1q2); obtain ⟨c1q0, c1q1, c1q2⟩ := c1.c3; (try clear c1l); have c1l := c1.lt; have hR1 := (hR1.next zd hw5).more hw5.size; have hR2 := (hR2.next zd hw5).more hw5.size; have hR3 := (hR3.next zd hw5).more hw5.size; have hR4 := (hR4.next zd hw5).more hw5.size; have hc := bthen hc hw5))
 all_goals
  go_wp2
  go_ret
  exact ⟨rfl, bthen hB hc⟩
theorem ref_of (z : Int) (w : World) (h0 : -9223372036854775808 <= z) (h1 : z <= 9223372036854775807) : Calls Tryz.prog 69 #[.int .i64 z] w (RetQ (z : Rat) w) := by
 have H1 := lh h0
 have H2 := lh h1
 clear h0 h1
 have b0 := Blk.new w  70 #[.bool false, .slice none 0 0, .slice none 0 0]; have hB := balloc1 w (.cells #[.bool false, .slice none 0 0, .slice none 0 0] 70); have hZ := lh (show (w.alloc (.cells #[.bool false, .slice none 0 0, .slice none 0 0] 70)).heap.size = w.heap.size + 1 from by simp)
 go_enter Tryz.func69, Tryz.ntmps69
 go_wp2_with fail
 generalize (w.alloc (.cells #[.bool false, .slice none 0 0, .slice none 0 0] 70)) = W at *
 refine (ref_intOf z W H1.out H2.out).mono ?_
 rintro e w1 ⟨v1, rfl, hR1, hw1⟩
 obtain ⟨g1, A1, l1, c1c, rfl⟩ := hR1.shape
 have b0 := b0.below hw1 b0.lt
 go_wp2_with fail
 refine (ref_natOf 1 w1 (by omega)).mono ?_
 rintro e w2 ⟨v2, rfl, hR2, hw2⟩
 obtain ⟨A2, l2, c2c, rfl⟩ := hR2.form
 have hR1 := (hR1.next zd hw2).more hw2.size
 have b0 := b0.below hw2 b0.lt
 obtain ⟨b0q0, b0q1, b0q2, b0f0, b0f1, b0f2, b0s0, b0s1, b0s2⟩ := b0.f3
 go_wp2
 refine bodyPost_ret (v := .agg #[.bool g1, .slice A1 l1 c1c, .slice A2 l2 c2c]) (by simp [results, Tryz.results69, go_sem, b0s0, b0s1, b0s2]) rfl ?_
 exact retQ_done hB (bthen hw1 hw2) (IsQ.mk (q := (z : Rat)) hR1 hR2) b0 (by omega)
theorem ref_over (n d : Int) (w : World) (h0 : -9223372036854775808 <= n) (h1 : n <= 9223372036854775807) (h2 : -9223372036854775808 <= d) (h3 : d <= 9223372036854775807) (hd : d ≠ 0) : Calls Tryz.prog 36 #[.int .i64 n, .int .i64 d] w (RetQ (Rat.divInt n d) w) := by
 have s1 : (limbs n.natAbs).length <= 17179869184 := nt (limbs_blen _ 2 (blen_small _ (by omega))) (by omega)
 have s2 : (limbs d.natAbs).length <= 17179869184 := nt (limbs_blen _ 2 (blen_small _ (by omega))) (by omega)
 have H1 := lh h0
 have H2 := lh h1
 have H3 := lh h2
 have H4 := lh h3
 have HD := lh hd
 clear h0 h1 h2 h3 hd
 have b0 := Blk.new w  70 #[.bool false, .slice none 0 0, .slice none 0 0]; have hB := balloc1 w (.cells #[.bool false, .slice none 0 0, .slice none 0 0] 70); have hZ := lh (show (w.alloc (.cells #[.bool false, .slice none 0 0, .slice none 0 0] 70)).heap.size = w.heap.size + 1 from by simp)
 go_enter Tryz.func36, Tryz.ntmps36
 go_wp2_with fail
 generalize (w.alloc (.cells #[.bool false, .slice none 0 0, .slice none 0 0] 70)) = W at *
 refine (ref_intOf n W H1.out H2.out).mono ?_
 rintro e w1 ⟨v1, rfl, hR1, hw1⟩
 obtain ⟨g1, A1, l1, c1c, rfl⟩ := hR1.shape
 have b0 := b0.below hw1 b0.lt
 go_wp2_with fail
 refine (ref_intOf d w1 H3.out H4.out).mono ?_
 rintro e w2 ⟨v2, rfl, hR2, hw2⟩
 obtain ⟨g2, A2, l2, c2c, rfl⟩ := hR2.shape
 have hR1 := (hR1.next zd hw2).more hw2.size
 have b0 := b0.below hw2 b0.lt
 go_wp2_with fail
 refine (ref_make n d _ _ _ w2 hR1 hR2 zd s1 s2 HD.out).mono ?_
 rintro e w3 ⟨v3, rfl, hR3, hw3⟩
 obtain ⟨g3, A3, l3, c3c, A3', l3', c3c', rfl⟩ := hR3.shape
 have b0 := b0.below hw3 b0.lt
 obtain ⟨b0q0, b0q1, b0q2, b0f0, b0f1, b0f2, b0s0, b0s1, b0s2⟩ := b0.f3
 go_wp2
 refine bodyPost_ret (v := .agg #[.bool g3, .slice A3 l3 c3c, .slice A3' l3' c3c']) (by simp [results, Tryz.results36, go_sem, b0s0, b0s1, b0s2]) rfl ?_
 exact retQ_done hB (bthen (bthen hw1 hw2) hw3) hR3 b0 (by omega)
end Go.Proofs.YtecnjlcfoobepaaGreatDoor
