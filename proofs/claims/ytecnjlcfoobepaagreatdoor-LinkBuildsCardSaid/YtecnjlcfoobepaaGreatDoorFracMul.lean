import Derived.Test.YtecnjlcfoobepaaGreatDoorFracM
namespace Go.Proofs.YtecnjlcfoobepaaGreatDoor
set_option maxRecDepth 100000
set_option maxHeartbeats 2000000
open Go.RowKit
set_option linter.unusedSimpArgs false
set_option linter.unusedVariables false
attribute [local irreducible] lo mo Calls
set_option maxRecDepth 100000 in
set_option maxHeartbeats 1000000 in
theorem frac_mulW (a b : Rat) (w : World) (ha : QS 549755813888 a) (hb : QS 549755813888 b) (ha1 : a.den = 1) (hb1 : b.den = 1) :
  Calls Tryz.prog 37 #[qV a, qV b] w (Ret (qV (a * b)) w) := by
 have hwa := fun w => frac_isWhole a w (ha.mono (by omega))
 have hwb := fun w => frac_isWhole b w (hb.mono (by omega))
 rw [decide_eq_true ha1] at hwa
 rw [decide_eq_true hb1] at hwb
 have hmu := fun w => whole_mul a.num b.num w (by have := ha.1; omega) (by have := hb.1; omega)
 obtain ⟨q1, q2⟩ := rat_mul_whole a b ha1 hb1
 have q3 := (qden_zero (a * b)).2 q2
 have q4 := (qden_zero a).2 ha1
 have q5 := (qden_zero b).2 hb1
 rw [<- q1] at hmu
 unfold qV at hwa hwb ⊢
 rw [q4] at hwa
 rw [q5] at hwb
 rw [q3, q4, q5, mo_small 0 (by omega), lo_small 0 (by omega)]
 rw [mo_small 0 (by omega), lo_small 0 (by omega)] at hwa hwb
 unfold intV at hmu
 clear q1 q2 q3 q4 q5 ha hb ha1 hb1
 generalize decide (a.num < 0) = na at *
 generalize decide (b.num < 0) = nb at *
 generalize decide ((a * b).num < 0) = nq at *
 generalize (a * b).num.natAbs = Q at *
 generalize a.num.natAbs = A at *
 generalize b.num.natAbs = B at *
 have HWA := lh hwa
 have HWB := lh hwb
 have HMU := lh hmu
 clear hwa hwb hmu
 have b0 := ((Blk.new w  56 #[.bool na, .int .u64 (lo A : Int), .string (mo A), .int .u64 ((0 : Nat) : Int), .string ⟨#[]⟩]).alloc (.cells #[.bool nb, .int .u64 (lo B : Int), .string (mo B), .int .u64 ((0 : Nat) : Int), .string ⟨#[]⟩] 56)).alloc (.cells #[.bool false, .int .u64 0, .string ⟨#[]⟩, .int .u64 0, .string ⟨#[]⟩] 56); have b1 := (Blk.new2 w (.cells #[.bool na, .int .u64 (lo A : Int), .string (mo A), .int .u64 ((0 : Nat) : Int), .string ⟨#[]⟩] 56) 56 #[.bool nb, .int .u64 (lo B : Int), .string (mo B), .int .u64 ((0 : Nat) : Int), .string ⟨#[]⟩]).alloc (.cells #[.bool false, .int .u64 0, .string ⟨#[]⟩, .int .u64 0, .string ⟨#[]⟩] 56); have b2 := Blk.new3 w (.cells #[.bool na, .int .u64 (lo A : Int), .string (mo A), .int .u64 ((0 : Nat) : Int), .string ⟨#[]⟩] 56) (.cells #[.bool nb, .int .u64 (lo B : Int), .string (mo B), .int .u64 ((0 : Nat) : Int), .string ⟨#[]⟩] 56) 56 #[.bool false, .int .u64 0, .string ⟨#[]⟩, .int .u64 0, .string ⟨#[]⟩]; have hB := balloc3 w (.cells #[.bool na, .int .u64 (lo A : Int), .string (mo A), .int .u64 ((0 : Nat) : Int), .string ⟨#[]⟩] 56) (.cells #[.bool nb, .int .u64 (lo B : Int), .string (mo B), .int .u64 ((0 : Nat) : Int), .string ⟨#[]⟩] 56) (.cells #[.bool false, .int .u64 0, .string ⟨#[]⟩, .int .u64 0, .string ⟨#[]⟩] 56); have hZ := lh (show (((w.alloc (.cells #[.bool na, .int .u64 (lo A : Int), .string (mo A), .int .u64 ((0 : Nat) : Int), .string ⟨#[]⟩] 56)).alloc (.cells #[.bool nb, .int .u64 (lo B : Int), .string (mo B), .int .u64 ((0 : Nat) : Int), .string ⟨#[]⟩] 56)).alloc (.cells #[.bool false, .int .u64 0, .string ⟨#[]⟩, .int .u64 0, .string ⟨#[]⟩] 56)).heap.size = w.heap.size + 1 + 1 + 1 from by simp)
 go_enter Tryz.func37, Tryz.ntmps37
 go_wp2_with fail
 generalize (((w.alloc (.cells #[.bool na, .int .u64 (lo A : Int), .string (mo A), .int .u64 ((0 : Nat) : Int), .string ⟨#[]⟩] 56)).alloc (.cells #[.bool nb, .int .u64 (lo B : Int), .string (mo B), .int .u64 ((0 : Nat) : Int), .string ⟨#[]⟩] 56)).alloc (.cells #[.bool false, .int .u64 0, .string ⟨#[]⟩, .int .u64 0, .string ⟨#[]⟩] 56)) = W at *
 refine (HWA.out _).mono ?_
 rintro e w1 ⟨rfl, hb1⟩
 have hB1 := bthen hB hb1
 (try clear b0q0 b0q1 b0q2 b0q3 b0q4); have b0 := b0.below hb1 b0.lt; obtain ⟨b0q0, b0q1, b0q2, b0q3, b0q4⟩ := b0.c5; (try clear b1q0 b1q1 b1q2 b1q3 b1q4); have b1 := b1.below hb1 b1.lt; obtain ⟨b1q0, b1q1, b1q2, b1q3, b1q4⟩ := b1.c5
 have b2 := b2.below hb1 b2.lt
 go_wp2_with fail
 refine (HWB.out _).mono ?_
 rintro e w2 ⟨rfl, hb2⟩
 have hB2 := bthen hB1 hb2
 (try clear b0q0 b0q1 b0q2 b0q3 b0q4); have b0 := b0.below hb2 b0.lt; obtain ⟨b0q0, b0q1, b0q2, b0q3, b0q4⟩ := b0.c5; (try clear b1q0 b1q1 b1q2 b1q3 b1q4); have b1 := b1.below hb2 b1.lt; obtain ⟨b1q0, b1q1, b1q2, b1q3, b1q4⟩ := b1.c5
 have b2 := b2.below hb2 b2.lt
 go_wp2_with fail
 refine (HMU.out _).mono ?_
 rintro e w3 ⟨rfl, hb3⟩
 have hB3 := bthen hB2 hb3
 (try clear b2q0 b2q1 b2q2 b2q3 b2q4 b2f0 b2f1 b2f2 b2f3 b2f4 b2s0 b2s1 b2s2 b2s3 b2s4); have b2 := b2.below hb3 b2.lt; obtain ⟨b2q0, b2q1, b2q2, b2q3, b2q4, b2f0, b2f1, b2f2, b2f3, b2f4, b2s0, b2s1, b2s2, b2s3, b2s4⟩ := b2.f5
 go_wp2
 refine bodyPost_ret (v := .agg #[.bool nq, .int .u64 (lo Q : Int), .string (mo Q), .int .u64 ((0 : Nat) : Int), .string ⟨#[]⟩]) (by simp [results, Tryz.results37, go_sem, b2s0, b2s1, b2s2, b2s3, b2s4]) rfl ?_
 exact ⟨rfl, bset5 hB3 (by omega) _ _ _ _ _⟩
set_option maxRecDepth 100000 in
set_option maxHeartbeats 2000000 in
theorem frac_mulN (a b : Rat) (w : World) (ha : QS 549755813888 a) (hb : QS 549755813888 b) (hw : (decide (a.den = 1) && decide (b.den = 1)) = false) (hT : Tab w) :
  Calls Tryz.prog 37 #[qV a, qV b] w (Ret (qV (a * b)) w) := by
 have hwa := fun w => frac_isWhole a w (ha.mono (by omega))
 have hwb := fun w => frac_isWhole b w (hb.mono (by omega))
 have hda := fun w => frac_den a w (ha.mono (by omega))
 have hdb := fun w => frac_den b w (hb.mono (by omega))
 have hfa := fun w => whole_from false a.den w (by have := ha.2; omega)
 have hfb := fun w => whole_from false b.den w (by have := hb.2; omega)
 rw [show signed false a.den = (a.den : Int) from rfl] at hfa
 rw [show signed false b.den = (b.den : Int) from rfl] at hfb
 have hgg := fun w (hT : Tab w) => whole_gcd a.num b.den w ha.1 (by rw [Int.natAbs_natCast]; exact hb.2) hT
 have hgh := fun w (hT : Tab w) => whole_gcd b.num a.den w hb.1 (by rw [Int.natAbs_natCast]; exact ha.2) hT
 rw [Int.natAbs_natCast] at hgg hgh
 obtain ⟨q1, q2⟩ := rat_mul_parts a b rfl rfl
 have hqs : QS 1099511627776 (a * b) := (ha.mul hb).mono (by omega)
 have g1 := Nat.gcd_dvd_left a.num.natAbs b.den
 have g2 := Nat.gcd_dvd_right a.num.natAbs b.den
 have g3 := Nat.gcd_dvd_left b.num.natAbs a.den
 have g4 := Nat.gcd_dvd_right b.num.natAbs a.den
 have g5 : Nat.gcd a.num.natAbs b.den ≠ 0 := fun h => b.den_nz (Nat.gcd_eq_zero_iff.1 h).2
 have g6 : Nat.gcd b.num.natAbs a.den ≠ 0 := fun h => a.den_nz (Nat.gcd_eq_zero_iff.1 h).2
 have g7 := nt (blen_mono (Nat.le_of_dvd b.den_pos g2)) hb.2
 have g8 := nt (blen_mono (Nat.le_of_dvd a.den_pos g4)) ha.2
 generalize Nat.gcd a.num.natAbs b.den = G at *
 generalize Nat.gcd b.num.natAbs a.den = H at *
 have hpa := fun w => frac_part a.num G w (by have := ha.1; omega) (by omega) g5 g1
 have hpb := fun w => frac_part b.num H w (by have := hb.1; omega) (by omega) g6 g3
 have hoa := fun w => frac_over a.den H w (by have := ha.2; omega) (by omega) g6
 have hob := fun w => frac_over b.den G w (by have := hb.2; omega) (by omega) g5
 have hm1 := fun w => whole_mul (a.num / (G : Int)) (b.num / (H : Int)) w (by have := ha.1; have := blen_ediv g1; omega) (by have := hb.1; have := blen_ediv g3; omega)
 have hm2 := fun w => nat_mul (a.den / H) (b.den / G) w (by have := ha.2; have := blen_div a.den H; omega) (by have := hb.2; have := blen_div b.den G; omega)
 have hpk := fun w => frac_pack (a * b) w hqs
 rw [<- q1] at hm1
 rw [<- q2] at hm2
 clear q1 q2 hqs g1 g2 g3 g4 g5 g6 g7 g8
 unfold natV at hda hdb hfa hfb hgg hgh hpa hpb hoa hob hm2 hpk
 unfold intV at hfa hfb hgg hgh hpa hpb hm1 hpk
 unfold qV at hwa hwb hda hdb hpk ⊢
 rw [Int.natAbs_natCast] at hfa hfb hgg hgh
 generalize a.num / (G : Int) = p1 at *
 generalize b.num / (H : Int) = p2 at *
 generalize a.den / H = d1 at *
 generalize b.den / G = d2 at *
 generalize a * b = q at *
 generalize decide (a.den = 1) = wa at *
 generalize decide (b.den = 1) = wb at *
 generalize decide (a.num < 0) = na at *
 generalize decide (b.num < 0) = nb at *
 generalize decide (q.num < 0) = nq at *
 generalize decide (p1 < 0) = np1 at *
 generalize decide (p2 < 0) = np2 at *
 generalize decide ((a.den : Int) < 0) = nda at *
 generalize decide ((b.den : Int) < 0) = ndb at *
 clear ha hb
 generalize qden a = ea at *
 generalize qden b = eb at *
 generalize qden q = eq at *
 generalize a.num.natAbs = A at *
 generalize b.num.natAbs = B at *
 generalize q.num.natAbs = Q at *
 generalize p1.natAbs = P1 at *
 generalize p2.natAbs = P2 at *
 generalize a.den = da at *
 generalize b.den = db at *
 generalize q.den = dq at *
 have HWA := lh hwa
 have HWB := lh hwb
 have HDA := lh hda
 have HDB := lh hdb
 have HFA := lh hfa
 have HFB := lh hfb
 have HGG := lh hgg
 have HGH := lh hgh
 have HPA := lh hpa
 have HPB := lh hpb
 have HOA := lh hoa
 have HOB := lh hob
 have HM1 := lh hm1
 have HM2 := lh hm2
 have HPK := lh hpk
 clear hwa hwb hda hdb hfa hfb hgg hgh hpa hpb hoa hob hm1 hm2 hpk
 have b0 := ((Blk.new w  56 #[.bool na, .int .u64 (lo A : Int), .string (mo A), .int .u64 (lo ea : Int), .string (mo ea)]).alloc (.cells #[.bool nb, .int .u64 (lo B : Int), .string (mo B), .int .u64 (lo eb : Int), .string (mo eb)] 56)).alloc (.cells #[.bool false, .int .u64 0, .string ⟨#[]⟩, .int .u64 0, .string ⟨#[]⟩] 56); have b1 := (Blk.new2 w (.cells #[.bool na, .int .u64 (lo A : Int), .string (mo A), .int .u64 (lo ea : Int), .string (mo ea)] 56) 56 #[.bool nb, .int .u64 (lo B : Int), .string (mo B), .int .u64 (lo eb : Int), .string (mo eb)]).alloc (.cells #[.bool false, .int .u64 0, .string ⟨#[]⟩, .int .u64 0, .string ⟨#[]⟩] 56); have b2 := Blk.new3 w (.cells #[.bool na, .int .u64 (lo A : Int), .string (mo A), .int .u64 (lo ea : Int), .string (mo ea)] 56) (.cells #[.bool nb, .int .u64 (lo B : Int), .string (mo B), .int .u64 (lo eb : Int), .string (mo eb)] 56) 56 #[.bool false, .int .u64 0, .string ⟨#[]⟩, .int .u64 0, .string ⟨#[]⟩]; have hB := balloc3 w (.cells #[.bool na, .int .u64 (lo A : Int), .string (mo A), .int .u64 (lo ea : Int), .string (mo ea)] 56) (.cells #[.bool nb, .int .u64 (lo B : Int), .string (mo B), .int .u64 (lo eb : Int), .string (mo eb)] 56) (.cells #[.bool false, .int .u64 0, .string ⟨#[]⟩, .int .u64 0, .string ⟨#[]⟩] 56); have hZ := lh (show (((w.alloc (.cells #[.bool na, .int .u64 (lo A : Int), .string (mo A), .int .u64 (lo ea : Int), .string (mo ea)] 56)).alloc (.cells #[.bool nb, .int .u64 (lo B : Int), .string (mo B), .int .u64 (lo eb : Int), .string (mo eb)] 56)).alloc (.cells #[.bool false, .int .u64 0, .string ⟨#[]⟩, .int .u64 0, .string ⟨#[]⟩] 56)).heap.size = w.heap.size + 1 + 1 + 1 from by simp)
 have tT := hT.next hB
 go_enter Tryz.func37, Tryz.ntmps37
 go_upto_region 1 with fail
 generalize (((w.alloc (.cells #[.bool na, .int .u64 (lo A : Int), .string (mo A), .int .u64 (lo ea : Int), .string (mo ea)] 56)).alloc (.cells #[.bool nb, .int .u64 (lo B : Int), .string (mo B), .int .u64 (lo eb : Int), .string (mo eb)] 56)).alloc (.cells #[.bool false, .int .u64 0, .string ⟨#[]⟩, .int .u64 0, .string ⟨#[]⟩] 56)) = W at *
 have hzW : W.heap.size = w.heap.size + 1 + 1 + 1 := hZ.out
 go_cut [12] (fun v wc => v = .bool false /\ Below W.heap.size W wc)
 case first =>
  obtain ⟨b0q0, b0q1, b0q2, b0q3, b0q4⟩ := b0.c5; obtain ⟨b1q0, b1q1, b1q2, b1q3, b1q4⟩ := b1.c5
  go_wp2_with fail
  refine (HWA.out _).mono ?_
  rintro e w1 ⟨rfl, hb1⟩
  (try clear b0q0 b0q1 b0q2 b0q3 b0q4); have b0 := b0.below hb1 b0.lt; obtain ⟨b0q0, b0q1, b0q2, b0q3, b0q4⟩ := b0.c5; (try clear b1q0 b1q1 b1q2 b1q3 b1q4); have b1 := b1.below hb1 b1.lt; obtain ⟨b1q0, b1q1, b1q2, b1q3, b1q4⟩ := b1.c5
  cases wa with
  | true =>
   have hwb : wb = false := by simpa using hw
   subst hwb
   go_wp2_with fail
   refine (HWB.out _).mono ?_
   rintro e w2 ⟨rfl, hb2⟩
   go_wp2
   go_meet
   exact ⟨rfl, bthen hb1 hb2⟩
  | false =>
   go_wp2
   go_meet
   exact ⟨rfl, hb1⟩
 case rest =>
  obtain ⟨rfl, hbc⟩ := hcut
  rename World => wc
  clear HWA HWB hw
  have b0 := b0.below hbc b0.lt
  have b1 := b1.below hbc b1.lt
  have b2 := b2.below hbc b2.lt
  have tT := tT.next hbc
  go_upto_region 3 with fail
  go_cut [5] (fun v wd => Born wc 52 #[.int .u64 (lo G : Int), .string (mo G)] v wd)
  case first =>
   obtain ⟨b0q0, b0q1, b0q2, b0q3, b0q4⟩ := b0.c5; have c0z := b0.lt; have c0 := b0.drew; have c0l := c0.lt; obtain ⟨b1q0, b1q1, b1q2, b1q3, b1q4⟩ := b1.c5; have c1z := b1.lt; have c1 := b1.drew; have c1l := c1.lt; have hc := bdrew0 wc; have tT : Tab wc.drew := tT; go_region_held3 (fun w' => w'.cell? ⟨w.heap.size, 0, none⟩ = some (.bool na) /\ w'.cell? ⟨w.heap.size, 1, none⟩ = some (.int .u64 (lo A : Int)) /\ w'.cell? ⟨w.heap.size, 2, none⟩ = some (.string (mo A)) /\ w'.cell? ⟨w.heap.size, 3, none⟩ = some (.int .u64 (lo ea : Int)) /\ w'.cell? ⟨w.heap.size, 4, none⟩ = some (.string (mo ea)) /\ w'.cell? ⟨w.heap.size + 1, 0, none⟩ = some (.bool nb) /\ w'.cell? ⟨w.heap.size + 1, 1, none⟩ = some (.int .u64 (lo B : Int)) /\ w'.cell? ⟨w.heap.size + 1, 2, none⟩ = some (.string (mo B)) /\ w'.cell? ⟨w.heap.size + 1, 3, none⟩ = some (.int .u64 (lo eb : Int)) /\ w'.cell? ⟨w.heap.size + 1, 4, none⟩ = some (.string (mo eb))) (go_keep) (first | (go_at_call 67; refine (HDB.out _).mono ?_; rintro e w1 ⟨rfl, hw1⟩; (first | have c0 := c0.ya hw1 | have c0 := c0.yb hw1 | have c0 := c0.yc hw1); (try clear c0q0 c0q1 c0q2 c0q3 c0q4); obtain ⟨c0q0, c0q1, c0q2, c0q3, c0q4⟩ := c0.c5; (try clear c0l); have c0l := c0.lt; (first | have c1 := c1.ya hw1 | have c1 := c1.yb hw1 | have c1 := c1.yc hw1); (try clear c1q0 c1q1 c1q2 c1q3 c1q4); obtain ⟨c1q0, c1q1, c1q2, c1q3, c1q4⟩ := c1.c5; (try clear c1l); have c1l := c1.lt; (try (first | have ca := ca.below hw1 ca.lt | have ca := (ca.alloc _).below hw1 (ca.alloc _).lt)); (first | have tT := tT.next hw1 | have tT := (tT.next (balloc1 _ _)).next hw1 | have tT := (tT.next (balloc2 _ _ _)).next hw1); (first | have hc := bthen hc hw1 | (have hb1 := born1d hc hw1; obtain ⟨ca, hga, hc⟩ := hb1) | (have hb1 := born1 hc hw1; obtain ⟨ca, hga, hc⟩ := hb1)); (try have c0na := nelt c0z hga); (try have c1na := nelt c1z hga)) | (go_at_call 74; refine (HFB.out _).mono ?_; rintro e w2 ⟨rfl, hw2⟩; (first | have c0 := c0.ya hw2 | have c0 := c0.yb hw2 | have c0 := c0.yc hw2); (try clear c0q0 c0q1 c0q2 c0q3 c0q4); obtain ⟨c0q0, c0q1, c0q2, c0q3, c0q4⟩ := c0.c5; (try clear c0l); have c0l := c0.lt; (first | have c1 := c1.ya hw2 | have c1 := c1.yb hw2 | have c1 := c1.yc hw2); (try clear c1q0 c1q1 c1q2 c1q3 c1q4); obtain ⟨c1q0, c1q1, c1q2, c1q3, c1q4⟩ := c1.c5; (try clear c1l); have c1l := c1.lt; (try (first | have ca := ca.below hw2 ca.lt | have ca := (ca.alloc _).below hw2 (ca.alloc _).lt)); (first | have tT := tT.next hw2 | have tT := (tT.next (balloc1 _ _)).next hw2 | have tT := (tT.next (balloc2 _ _ _)).next hw2); (first | have hc := bthen hc hw2 | (have hb1 := born1d hc hw2; obtain ⟨ca, hga, hc⟩ := hb1) | (have hb1 := born1 hc hw2; obtain ⟨ca, hga, hc⟩ := hb1)); (try have c0na := nelt c0z hga); (try have c1na := nelt c1z hga)) | (go_at_call 79; (first | refine (HGG.out _ tT).mono ?_ | refine (HGG.out _ (tT.next (balloc1 _ _))).mono ?_ | refine (HGG.out _ (tT.next (balloc2 _ _ _))).mono ?_); rintro e w3 ⟨rfl, hw3⟩; (first | have c0 := c0.ya hw3 | have c0 := c0.yb hw3 | have c0 := c0.yc hw3); (try clear c0q0 c0q1 c0q2 c0q3 c0q4); obtain ⟨c0q0, c0q1, c0q2, c0q3, c0q4⟩ := c0.c5; (try clear c0l); have c0l := c0.lt; (first | have c1 := c1.ya hw3 | have c1 := c1.yb hw3 | have c1 := c1.yc hw3); (try clear c1q0 c1q1 c1q2 c1q3 c1q4); obtain ⟨c1q0, c1q1, c1q2, c1q3, c1q4⟩ := c1.c5; (try clear c1l); have c1l := c1.lt; (try (first | have ca := ca.below hw3 ca.lt | have ca := (ca.alloc _).below hw3 (ca.alloc _).lt)); (first | have hc := bthen hc hw3 | (have hb1 := born1d hc hw3; obtain ⟨ca, hga, hc⟩ := hb1) | (have hb1 := born1 hc hw3; obtain ⟨ca, hga, hc⟩ := hb1)); (try have c0na := nelt c0z hga); (try have c1na := nelt c1z hga); (try (have cal := ca.lt; obtain ⟨caq0, caq1, caf0, caf1, cas0, cas1⟩ := ca.f2))))
   all_goals
    go_wp2
    go_meet
    (first | exact one2 hc ca hga | exact one2 (bthen hc (balloc1 _ _)) (Blk.new _ _ _) hc.size | exact ⟨_, rfl, hc.size, Blk.new _ _ _, bthen hc (balloc1 _ _)⟩)
  case rest =>
   obtain ⟨g, rfl, hg, b5, hbd⟩ := hcut
   rename World => wd
   have b0 := b0.below hbd b0.lt
   have b1 := b1.below hbd b1.lt
   have b2 := b2.below hbd b2.lt
   have tT := tT.next hbd
   have hgW := nt hbc.size hg
   have hbe := bthen hbc hbd
   clear hbc hbd hg HFB HGG
   go_upto_region 4 with fail
   go_cut [6] (fun v we => Born wd 52 #[.int .u64 (lo H : Int), .string (mo H)] v we)
   case first =>
    obtain ⟨b0q0, b0q1, b0q2, b0q3, b0q4⟩ := b0.c5; have c0z := b0.lt; have c0 := b0.drew; have c0l := c0.lt; obtain ⟨b1q0, b1q1, b1q2, b1q3, b1q4⟩ := b1.c5; have c1z := b1.lt; have c1 := b1.drew; have c1l := c1.lt; have hc := bdrew0 wd; have tT : Tab wd.drew := tT; go_region_held3 (fun w' => w'.cell? ⟨w.heap.size, 0, none⟩ = some (.bool na) /\ w'.cell? ⟨w.heap.size, 1, none⟩ = some (.int .u64 (lo A : Int)) /\ w'.cell? ⟨w.heap.size, 2, none⟩ = some (.string (mo A)) /\ w'.cell? ⟨w.heap.size, 3, none⟩ = some (.int .u64 (lo ea : Int)) /\ w'.cell? ⟨w.heap.size, 4, none⟩ = some (.string (mo ea)) /\ w'.cell? ⟨w.heap.size + 1, 0, none⟩ = some (.bool nb) /\ w'.cell? ⟨w.heap.size + 1, 1, none⟩ = some (.int .u64 (lo B : Int)) /\ w'.cell? ⟨w.heap.size + 1, 2, none⟩ = some (.string (mo B)) /\ w'.cell? ⟨w.heap.size + 1, 3, none⟩ = some (.int .u64 (lo eb : Int)) /\ w'.cell? ⟨w.heap.size + 1, 4, none⟩ = some (.string (mo eb))) (go_keep) (first | (go_at_call 67; refine (HDA.out _).mono ?_; rintro e w1 ⟨rfl, hw1⟩; (first | have c0 := c0.ya hw1 | have c0 := c0.yb hw1 | have c0 := c0.yc hw1); (try clear c0q0 c0q1 c0q2 c0q3 c0q4); obtain ⟨c0q0, c0q1, c0q2, c0q3, c0q4⟩ := c0.c5; (try clear c0l); have c0l := c0.lt; (first | have c1 := c1.ya hw1 | have c1 := c1.yb hw1 | have c1 := c1.yc hw1); (try clear c1q0 c1q1 c1q2 c1q3 c1q4); obtain ⟨c1q0, c1q1, c1q2, c1q3, c1q4⟩ := c1.c5; (try clear c1l); have c1l := c1.lt; (try (first | have ca := ca.below hw1 ca.lt | have ca := (ca.alloc _).below hw1 (ca.alloc _).lt)); (first | have tT := tT.next hw1 | have tT := (tT.next (balloc1 _ _)).next hw1 | have tT := (tT.next (balloc2 _ _ _)).next hw1); (first | have hc := bthen hc hw1 | (have hb1 := born1d hc hw1; obtain ⟨ca, hga, hc⟩ := hb1) | (have hb1 := born1 hc hw1; obtain ⟨ca, hga, hc⟩ := hb1)); (try have c0na := nelt c0z hga); (try have c1na := nelt c1z hga)) | (go_at_call 74; refine (HFA.out _).mono ?_; rintro e w2 ⟨rfl, hw2⟩; (first | have c0 := c0.ya hw2 | have c0 := c0.yb hw2 | have c0 := c0.yc hw2); (try clear c0q0 c0q1 c0q2 c0q3 c0q4); obtain ⟨c0q0, c0q1, c0q2, c0q3, c0q4⟩ := c0.c5; (try clear c0l); have c0l := c0.lt; (first | have c1 := c1.ya hw2 | have c1 := c1.yb hw2 | have c1 := c1.yc hw2); (try clear c1q0 c1q1 c1q2 c1q3 c1q4); obtain ⟨c1q0, c1q1, c1q2, c1q3, c1q4⟩ := c1.c5; (try clear c1l); have c1l := c1.lt; (try (first | have ca := ca.below hw2 ca.lt | have ca := (ca.alloc _).below hw2 (ca.alloc _).lt)); (first | have tT := tT.next hw2 | have tT := (tT.next (balloc1 _ _)).next hw2 | have tT := (tT.next (balloc2 _ _ _)).next hw2); (first | have hc := bthen hc hw2 | (have hb1 := born1d hc hw2; obtain ⟨ca, hga, hc⟩ := hb1) | (have hb1 := born1 hc hw2; obtain ⟨ca, hga, hc⟩ := hb1)); (try have c0na := nelt c0z hga); (try have c1na := nelt c1z hga)) | (go_at_call 79; (first | refine (HGH.out _ tT).mono ?_ | refine (HGH.out _ (tT.next (balloc1 _ _))).mono ?_ | refine (HGH.out _ (tT.next (balloc2 _ _ _))).mono ?_); rintro e w3 ⟨rfl, hw3⟩; (first | have c0 := c0.ya hw3 | have c0 := c0.yb hw3 | have c0 := c0.yc hw3); (try clear c0q0 c0q1 c0q2 c0q3 c0q4); obtain ⟨c0q0, c0q1, c0q2, c0q3, c0q4⟩ := c0.c5; (try clear c0l); have c0l := c0.lt; (first | have c1 := c1.ya hw3 | have c1 := c1.yb hw3 | have c1 := c1.yc hw3); (try clear c1q0 c1q1 c1q2 c1q3 c1q4); obtain ⟨c1q0, c1q1, c1q2, c1q3, c1q4⟩ := c1.c5; (try clear c1l); have c1l := c1.lt; (try (first | have ca := ca.below hw3 ca.lt | have ca := (ca.alloc _).below hw3 (ca.alloc _).lt)); (first | have hc := bthen hc hw3 | (have hb1 := born1d hc hw3; obtain ⟨ca, hga, hc⟩ := hb1) | (have hb1 := born1 hc hw3; obtain ⟨ca, hga, hc⟩ := hb1)); (try have c0na := nelt c0z hga); (try have c1na := nelt c1z hga); (try (have cal := ca.lt; obtain ⟨caq0, caq1, caf0, caf1, cas0, cas1⟩ := ca.f2))))
    all_goals
     go_wp2
     go_meet
     (first | exact one2 hc ca hga | exact one2 (bthen hc (balloc1 _ _)) (Blk.new _ _ _) hc.size | exact ⟨_, rfl, hc.size, Blk.new _ _ _, bthen hc (balloc1 _ _)⟩)
   case rest =>
    obtain ⟨h, rfl, hh, b6, hbf⟩ := hcut
    rename World => we
    have b0 := b0.below hbf b0.lt
    have b1 := b1.below hbf b1.lt
    have b2 := b2.below hbf b2.lt
    have b5 := b5.below hbf b5.lt
    have hhW := nt hbe.size hh
    have hbg := bthen hB (bthen hbe hbf)
    clear hbe hbf hh HFA HGH tT
    have n0 := nelt (show w.heap.size < w.heap.size + 1 + 1 by omega) zd
    have n1 := nelt (show w.heap.size + 1 < w.heap.size + 1 + 1 by omega) zd
    have n2 := nelt (show w.heap.size + 1 + 1 < W.heap.size by omega) hgW
    have n3 := nelt (show w.heap.size + 1 + 1 < W.heap.size by omega) hhW
    go_upto_region 5 with fail
    obtain ⟨b0q0, b0q1, b0q2, b0q3, b0q4⟩ := b0.c5; have c0z := b0.lt; have c0 := b0.drew; have c0l := c0.lt; obtain ⟨b1q0, b1q1, b1q2, b1q3, b1q4⟩ := b1.c5; have c1z := b1.lt; have c1 := b1.drew; have c1l := c1.lt; obtain ⟨b5q0, b5q1⟩ := b5.c2; have c5z := b5.lt; have c5 := b5.drew; have c5l := c5.lt; obtain ⟨b6q0, b6q1⟩ := b6.c2; have c6z := b6.lt; have c6 := b6.drew; have c6l := c6.lt; have c2 := b2.drew; have c2l := c2.lt; have hc := bdrew0 we; go_region_held3 (fun w' => w'.cell? ⟨w.heap.size, 0, none⟩ = some (.bool na) /\ w'.cell? ⟨w.heap.size, 1, none⟩ = some (.int .u64 (lo A : Int)) /\ w'.cell? ⟨w.heap.size, 2, none⟩ = some (.string (mo A)) /\ w'.cell? ⟨w.heap.size, 3, none⟩ = some (.int .u64 (lo ea : Int)) /\ w'.cell? ⟨w.heap.size, 4, none⟩ = some (.string (mo ea)) /\ w'.cell? ⟨w.heap.size + 1, 0, none⟩ = some (.bool nb) /\ w'.cell? ⟨w.heap.size + 1, 1, none⟩ = some (.int .u64 (lo B : Int)) /\ w'.cell? ⟨w.heap.size + 1, 2, none⟩ = some (.string (mo B)) /\ w'.cell? ⟨w.heap.size + 1, 3, none⟩ = some (.int .u64 (lo eb : Int)) /\ w'.cell? ⟨w.heap.size + 1, 4, none⟩ = some (.string (mo eb)) /\ w'.cell? ⟨g, 0, none⟩ = some (.int .u64 (lo G : Int)) /\ w'.cell? ⟨g, 1, none⟩ = some (.string (mo G)) /\ w'.cell? ⟨h, 0, none⟩ = some (.int .u64 (lo H : Int)) /\ w'.cell? ⟨h, 1, none⟩ = some (.string (mo H))) (go_keep) (first | (go_at_call 81; refine (HPA.out _).mono ?_; rintro e w1 ⟨rfl, hw1⟩; (first | have c0 := c0.ya hw1 | have c0 := c0.yb hw1 | have c0 := c0.yc hw1); (try clear c0q0 c0q1 c0q2 c0q3 c0q4); obtain ⟨c0q0, c0q1, c0q2, c0q3, c0q4⟩ := c0.c5; (try clear c0l); have c0l := c0.lt; (first | have c1 := c1.ya hw1 | have c1 := c1.yb hw1 | have c1 := c1.yc hw1); (try clear c1q0 c1q1 c1q2 c1q3 c1q4); obtain ⟨c1q0, c1q1, c1q2, c1q3, c1q4⟩ := c1.c5; (try clear c1l); have c1l := c1.lt; (first | have c5 := c5.ya hw1 | have c5 := c5.yb hw1 | have c5 := c5.yc hw1); (try clear c5q0 c5q1); obtain ⟨c5q0, c5q1⟩ := c5.c2; (try clear c5l); have c5l := c5.lt; (first | have c6 := c6.ya hw1 | have c6 := c6.yb hw1 | have c6 := c6.yc hw1); (try clear c6q0 c6q1); obtain ⟨c6q0, c6q1⟩ := c6.c2; (try clear c6l); have c6l := c6.lt; (first | have c2 := c2.ya hw1 | have c2 := c2.yb hw1 | have c2 := c2.yc hw1); (try clear c2l); have c2l := c2.lt; have hc := bthen hc hw1) | (go_at_call 81; refine (HPB.out _).mono ?_; rintro e w2 ⟨rfl, hw2⟩; (first | have c0 := c0.ya hw2 | have c0 := c0.yb hw2 | have c0 := c0.yc hw2); (try clear c0q0 c0q1 c0q2 c0q3 c0q4); obtain ⟨c0q0, c0q1, c0q2, c0q3, c0q4⟩ := c0.c5; (try clear c0l); have c0l := c0.lt; (first | have c1 := c1.ya hw2 | have c1 := c1.yb hw2 | have c1 := c1.yc hw2); (try clear c1q0 c1q1 c1q2 c1q3 c1q4); obtain ⟨c1q0, c1q1, c1q2, c1q3, c1q4⟩ := c1.c5; (try clear c1l); have c1l := c1.lt; (first | have c5 := c5.ya hw2 | have c5 := c5.yb hw2 | have c5 := c5.yc hw2); (try clear c5q0 c5q1); obtain ⟨c5q0, c5q1⟩ := c5.c2; (try clear c5l); have c5l := c5.lt; (first | have c6 := c6.ya hw2 | have c6 := c6.yb hw2 | have c6 := c6.yc hw2); (try clear c6q0 c6q1); obtain ⟨c6q0, c6q1⟩ := c6.c2; (try clear c6l); have c6l := c6.lt; (first | have c2 := c2.ya hw2 | have c2 := c2.yb hw2 | have c2 := c2.yc hw2); (try clear c2l); have c2l := c2.lt; have hc := bthen hc hw2) | (go_at_call 78; refine (HM1.out _).mono ?_; rintro e w3 ⟨rfl, hw3⟩; (first | have c0 := c0.ya hw3 | have c0 := c0.yb hw3 | have c0 := c0.yc hw3); (try clear c0q0 c0q1 c0q2 c0q3 c0q4); obtain ⟨c0q0, c0q1, c0q2, c0q3, c0q4⟩ := c0.c5; (try clear c0l); have c0l := c0.lt; (first | have c1 := c1.ya hw3 | have c1 := c1.yb hw3 | have c1 := c1.yc hw3); (try clear c1q0 c1q1 c1q2 c1q3 c1q4); obtain ⟨c1q0, c1q1, c1q2, c1q3, c1q4⟩ := c1.c5; (try clear c1l); have c1l := c1.lt; (first | have c5 := c5.ya hw3 | have c5 := c5.yb hw3 | have c5 := c5.yc hw3); (try clear c5q0 c5q1); obtain ⟨c5q0, c5q1⟩ := c5.c2; (try clear c5l); have c5l := c5.lt; (first | have c6 := c6.ya hw3 | have c6 := c6.yb hw3 | have c6 := c6.yc hw3); (try clear c6q0 c6q1); obtain ⟨c6q0, c6q1⟩ := c6.c2; (try clear c6l); have c6l := c6.lt; (first | have c2 := c2.ya hw3 | have c2 := c2.yb hw3 | have c2 := c2.yc hw3); (try clear c2l); have c2l := c2.lt; have hc := bthen hc hw3) | (go_at_call 67; refine (HDA.out _).mono ?_; rintro e w4 ⟨rfl, hw4⟩; (first | have c0 := c0.ya hw4 | have c0 := c0.yb hw4 | have c0 := c0.yc hw4); (try clear c0q0 c0q1 c0q2 c0q3 c0q4); obtain ⟨c0q0, c0q1, c0q2, c0q3, c0q4⟩ := c0.c5; (try clear c0l); have c0l := c0.lt; (first | have c1 := c1.ya hw4 | have c1 := c1.yb hw4 | have c1 := c1.yc hw4); (try clear c1q0 c1q1 c1q2 c1q3 c1q4); obtain ⟨c1q0, c1q1, c1q2, c1q3, c1q4⟩ := c1.c5; (try clear c1l); have c1l := c1.lt; (first | have c5 := c5.ya hw4 | have c5 := c5.yb hw4 | have c5 := c5.yc hw4); (try clear c5q0 c5q1); obtain ⟨c5q0, c5q1⟩ := c5.c2; (try clear c5l); have c5l := c5.lt; (first | have c6 := c6.ya hw4 | have c6 := c6.yb hw4 | have c6 := c6.yc hw4); (try clear c6q0 c6q1); obtain ⟨c6q0, c6q1⟩ := c6.c2; (try clear c6l); have c6l := c6.lt; (first | have c2 := c2.ya hw4 | have c2 := c2.yb hw4 | have c2 := c2.yc hw4); (try clear c2l); have c2l := c2.lt; have hc := bthen hc hw4) | (go_at_call 82; refine (HOA.out _).mono ?_; rintro e w5 ⟨rfl, hw5⟩; (first | have c0 := c0.ya hw5 | have c0 := c0.yb hw5 | have c0 := c0.yc hw5); (try clear c0q0 c0q1 c0q2 c0q3 c0q4); obtain ⟨c0q0, c0q1, c0q2, c0q3, c0q4⟩ := c0.c5; (try clear c0l); have c0l := c0.lt; (first | have c1 := c1.ya hw5 | have c1 := c1.yb hw5 | have c1 := c1.yc hw5); (try clear c1q0 c1q1 c1q2 c1q3 c1q4); obtain ⟨c1q0, c1q1, c1q2, c1q3, c1q4⟩ := c1.c5; (try clear c1l); have c1l := c1.lt; (first | have c5 := c5.ya hw5 | have c5 := c5.yb hw5 | have c5 := c5.yc hw5); (try clear c5q0 c5q1); obtain ⟨c5q0, c5q1⟩ := c5.c2; (try clear c5l); have c5l := c5.lt; (first | have c6 := c6.ya hw5 | have c6 := c6.yb hw5 | have c6 := c6.yc hw5); (try clear c6q0 c6q1); obtain ⟨c6q0, c6q1⟩ := c6.c2; (try clear c6l); have c6l := c6.lt; (first | have c2 := c2.ya hw5 | have c2 := c2.yb hw5 | have c2 := c2.yc hw5); (try clear c2l); have c2l := c2.lt; have hc := bthen hc hw5) | (go_at_call 67; refine (HDB.out _).mono ?_; rintro e w6 ⟨rfl, hw6⟩; (first | have c0 := c0.ya hw6 | have c0 := c0.yb hw6 | have c0 := c0.yc hw6); (try clear c0q0 c0q1 c0q2 c0q3 c0q4); obtain ⟨c0q0, c0q1, c0q2, c0q3, c0q4⟩ := c0.c5; (try clear c0l); have c0l := c0.lt; (first | have c1 := c1.ya hw6 | have c1 := c1.yb hw6 | have c1 := c1.yc hw6); (try clear c1q0 c1q1 c1q2 c1q3 c1q4); obtain ⟨c1q0, c1q1, c1q2, c1q3, c1q4⟩ := c1.c5; (try clear c1l); have c1l := c1.lt; (first | have c5 := c5.ya hw6 | have c5 := c5.yb hw6 | have c5 := c5.yc hw6); (try clear c5q0 c5q1); obtain ⟨c5q0, c5q1⟩ := c5.c2; (try clear c5l); have c5l := c5.lt; (first | have c6 := c6.ya hw6 | have c6 := c6.yb hw6 | have c6 := c6.yc hw6); (try clear c6q0 c6q1); obtain ⟨c6q0, c6q1⟩ := c6.c2; (try clear c6l); have c6l := c6.lt; (first | have c2 := c2.ya hw6 | have c2 := c2.yb hw6 | have c2 := c2.yc hw6); (try clear c2l); have c2l := c2.lt; have hc := bthen hc hw6) | (go_at_call 82; refine (HOB.out _).mono ?_; rintro e w7 ⟨rfl, hw7⟩; (first | have c0 := c0.ya hw7 | have c0 := c0.yb hw7 | have c0 := c0.yc hw7); (try clear c0q0 c0q1 c0q2 c0q3 c0q4); obtain ⟨c0q0, c0q1, c0q2, c0q3, c0q4⟩ := c0.c5; (try clear c0l); have c0l := c0.lt; (first | have c1 := c1.ya hw7 | have c1 := c1.yb hw7 | have c1 := c1.yc hw7); (try clear c1q0 c1q1 c1q2 c1q3 c1q4); obtain ⟨c1q0, c1q1, c1q2, c1q3, c1q4⟩ := c1.c5; (try clear c1l); have c1l := c1.lt; (first | have c5 := c5.ya hw7 | have c5 := c5.yb hw7 | have c5 := c5.yc hw7); (try clear c5q0 c5q1); obtain ⟨c5q0, c5q1⟩ := c5.c2; (try clear c5l); have c5l := c5.lt; (first | have c6 := c6.ya hw7 | have c6 := c6.yb hw7 | have c6 := c6.yc hw7); (try clear c6q0 c6q1); obtain ⟨c6q0, c6q1⟩ := c6.c2; (try clear c6l); have c6l := c6.lt; (first | have c2 := c2.ya hw7 | have c2 := c2.yb hw7 | have c2 := c2.yc hw7); (try clear c2l); have c2l := c2.lt; have hc := bthen hc hw7) | (go_at_call 83; refine (HM2.out _).mono ?_; rintro e w8 ⟨rfl, hw8⟩; (first | have c0 := c0.ya hw8 | have c0 := c0.yb hw8 | have c0 := c0.yc hw8); (try clear c0q0 c0q1 c0q2 c0q3 c0q4); obtain ⟨c0q0, c0q1, c0q2, c0q3, c0q4⟩ := c0.c5; (try clear c0l); have c0l := c0.lt; (first | have c1 := c1.ya hw8 | have c1 := c1.yb hw8 | have c1 := c1.yc hw8); (try clear c1q0 c1q1 c1q2 c1q3 c1q4); obtain ⟨c1q0, c1q1, c1q2, c1q3, c1q4⟩ := c1.c5; (try clear c1l); have c1l := c1.lt; (first | have c5 := c5.ya hw8 | have c5 := c5.yb hw8 | have c5 := c5.yc hw8); (try clear c5q0 c5q1); obtain ⟨c5q0, c5q1⟩ := c5.c2; (try clear c5l); have c5l := c5.lt; (first | have c6 := c6.ya hw8 | have c6 := c6.yb hw8 | have c6 := c6.yc hw8); (try clear c6q0 c6q1); obtain ⟨c6q0, c6q1⟩ := c6.c2; (try clear c6l); have c6l := c6.lt; (first | have c2 := c2.ya hw8 | have c2 := c2.yb hw8 | have c2 := c2.yc hw8); (try clear c2l); have c2l := c2.lt; have hc := bthen hc hw8) | (go_at_call 80; refine (HPK.out _).mono ?_; rintro e w9 ⟨rfl, hw9⟩; (first | have c0 := c0.ya hw9 | have c0 := c0.yb hw9 | have c0 := c0.yc hw9); (try clear c0q0 c0q1 c0q2 c0q3 c0q4); obtain ⟨c0q0, c0q1, c0q2, c0q3, c0q4⟩ := c0.c5; (try clear c0l); have c0l := c0.lt; (first | have c1 := c1.ya hw9 | have c1 := c1.yb hw9 | have c1 := c1.yc hw9); (try clear c1q0 c1q1 c1q2 c1q3 c1q4); obtain ⟨c1q0, c1q1, c1q2, c1q3, c1q4⟩ := c1.c5; (try clear c1l); have c1l := c1.lt; (first | have c5 := c5.ya hw9 | have c5 := c5.yb hw9 | have c5 := c5.yc hw9); (try clear c5q0 c5q1); obtain ⟨c5q0, c5q1⟩ := c5.c2; (try clear c5l); have c5l := c5.lt; (first | have c6 := c6.ya hw9 | have c6 := c6.yb hw9 | have c6 := c6.yc hw9); (try clear c6q0 c6q1); obtain ⟨c6q0, c6q1⟩ := c6.c2; (try clear c6l); have c6l := c6.lt; (first | have c2 := c2.ya hw9 | have c2 := c2.yb hw9 | have c2 := c2.yc hw9); (try clear c2l); have c2l := c2.lt; have hc := bthen hc hw9; obtain ⟨c2q0, c2q1, c2q2, c2q3, c2q4, c2f0, c2f1, c2f2, c2f3, c2f4, c2s0, c2s1, c2s2, c2s3, c2s4⟩ := c2.f5))
    all_goals
     go_wp2
     refine bodyPost_ret (v := .agg #[.bool nq, .int .u64 (lo Q : Int), .string (mo Q), .int .u64 (lo eq : Int), .string (mo eq)]) (by simp [results, Tryz.results37, go_sem, c2s0, c2s1, c2s2, c2s3, c2s4]) rfl ?_
     exact ⟨rfl, bset5 (bthen hbg hc) (by omega) _ _ _ _ _⟩
theorem frac_mul (a b : Rat) (w : World) (ha : QS 549755813888 a) (hb : QS 549755813888 b) (hT : Tab w) :
  Calls Tryz.prog 37 #[qV a, qV b] w (Ret (qV (a * b)) w) := by
 by_cases h1 : a.den = 1
 ·by_cases h2 : b.den = 1
  ·exact frac_mulW a b w ha hb h1 h2
  exact frac_mulN a b w ha hb (by simp [h2]) hT
 exact frac_mulN a b w ha hb (by simp [h1]) hT
end Go.Proofs.YtecnjlcfoobepaaGreatDoor
