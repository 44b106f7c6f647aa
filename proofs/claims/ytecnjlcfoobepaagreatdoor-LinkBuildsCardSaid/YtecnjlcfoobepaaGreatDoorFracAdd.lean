import Derived.Test.YtecnjlcfoobepaaGreatDoorFracM
import Derived.Test.YtecnjlcfoobepaaGreatDoorWholeAdd
namespace Go.Proofs.YtecnjlcfoobepaaGreatDoor
set_option maxRecDepth 100000
set_option maxHeartbeats 8000000
open Go.RowKit
set_option linter.unusedSimpArgs false
set_option linter.unusedVariables false
attribute [local irreducible] lo mo Calls
set_option maxRecDepth 100000 in
set_option maxHeartbeats 1000000 in
theorem frac_addW (a b : Rat) (w : World) (ha : QS 137438953472 a) (hb : QS 137438953472 b) (ha1 : a.den = 1) (hb1 : b.den = 1) :
  Calls Tryz.prog 124 #[qV a, qV b] w (Ret (qV (a + b)) w) := by
 have hwa := fun w => frac_isWhole a w (ha.mono (by omega))
 have hwb := fun w => frac_isWhole b w (hb.mono (by omega))
 rw [decide_eq_true ha1] at hwa
 rw [decide_eq_true hb1] at hwb
 have hmu := fun w => whole_add a.num b.num w (by have := ha.1; omega) (by have := hb.1; omega)
 obtain ⟨q1, q2⟩ := rat_add_whole a b ha1 hb1
 have q3 := (qden_zero (a + b)).2 q2
 have q4 := (qden_zero a).2 ha1
 have q5 := (qden_zero b).2 hb1
 rw [<- q1] at hmu
 unfold qV at hwa hwb ⊢
 rw [q4] at hwa
 rw [q5] at hwb
 rw [q3, q4, q5, mo_small 0 (by omega), lo_small 0 (by omega)]
 rw [mo_small 0 (by omega), lo_small 0 (by omega)] at hwa hwb
 unfold intV at hmu
 clear q1 q2 q3 q4 q5 ha hb ha1 hb1
 generalize decide (a.num < 0) = na at *
 generalize decide (b.num < 0) = nb at *
 generalize decide ((a + b).num < 0) = nq at *
 generalize (a + b).num.natAbs = Q at *
 generalize a.num.natAbs = A at *
 generalize b.num.natAbs = B at *
 have HWA := lh hwa
 have HWB := lh hwb
 have HMU := lh hmu
 clear hwa hwb hmu
 have b0 := ((Blk.new w  56 #[.bool na, .int .u64 (lo A : Int), .string (mo A), .int .u64 ((0 : Nat) : Int), .string ⟨#[]⟩]).alloc (.cells #[.bool nb, .int .u64 (lo B : Int), .string (mo B), .int .u64 ((0 : Nat) : Int), .string ⟨#[]⟩] 56)).alloc (.cells #[.bool false, .int .u64 0, .string ⟨#[]⟩, .int .u64 0, .string ⟨#[]⟩] 56); have b1 := (Blk.new2 w (.cells #[.bool na, .int .u64 (lo A : Int), .string (mo A), .int .u64 ((0 : Nat) : Int), .string ⟨#[]⟩] 56) 56 #[.bool nb, .int .u64 (lo B : Int), .string (mo B), .int .u64 ((0 : Nat) : Int), .string ⟨#[]⟩]).alloc (.cells #[.bool false, .int .u64 0, .string ⟨#[]⟩, .int .u64 0, .string ⟨#[]⟩] 56); have b2 := Blk.new3 w (.cells #[.bool na, .int .u64 (lo A : Int), .string (mo A), .int .u64 ((0 : Nat) : Int), .string ⟨#[]⟩] 56) (.cells #[.bool nb, .int .u64 (lo B : Int), .string (mo B), .int .u64 ((0 : Nat) : Int), .string ⟨#[]⟩] 56) 56 #[.bool false, .int .u64 0, .string ⟨#[]⟩, .int .u64 0, .string ⟨#[]⟩]; have hB := balloc3 w (.cells #[.bool na, .int .u64 (lo A : Int), .string (mo A), .int .u64 ((0 : Nat) : Int), .string ⟨#[]⟩] 56) (.cells #[.bool nb, .int .u64 (lo B : Int), .string (mo B), .int .u64 ((0 : Nat) : Int), .string ⟨#[]⟩] 56) (.cells #[.bool false, .int .u64 0, .string ⟨#[]⟩, .int .u64 0, .string ⟨#[]⟩] 56); have hZ := lh (show (((w.alloc (.cells #[.bool na, .int .u64 (lo A : Int), .string (mo A), .int .u64 ((0 : Nat) : Int), .string ⟨#[]⟩] 56)).alloc (.cells #[.bool nb, .int .u64 (lo B : Int), .string (mo B), .int .u64 ((0 : Nat) : Int), .string ⟨#[]⟩] 56)).alloc (.cells #[.bool false, .int .u64 0, .string ⟨#[]⟩, .int .u64 0, .string ⟨#[]⟩] 56)).heap.size = w.heap.size + 1 + 1 + 1 from by simp)
 go_enter Tryz.func124, Tryz.ntmps124
 go_wp2_with fail
 generalize (((w.alloc (.cells #[.bool na, .int .u64 (lo A : Int), .string (mo A), .int .u64 ((0 : Nat) : Int), .string ⟨#[]⟩] 56)).alloc (.cells #[.bool nb, .int .u64 (lo B : Int), .string (mo B), .int .u64 ((0 : Nat) : Int), .string ⟨#[]⟩] 56)).alloc (.cells #[.bool false, .int .u64 0, .string ⟨#[]⟩, .int .u64 0, .string ⟨#[]⟩] 56)) = W at *
 refine (HWA.out _).mono ?_
 rintro e w1 ⟨rfl, hb1⟩
 have hB1 := bthen hB hb1
 (try clear b0q0 b0q1 b0q2 b0q3 b0q4); have b0 := b0.below hb1 b0.lt; obtain ⟨b0q0, b0q1, b0q2, b0q3, b0q4⟩ := b0.c5; (try clear b1q0 b1q1 b1q2 b1q3 b1q4); have b1 := b1.below hb1 b1.lt; obtain ⟨b1q0, b1q1, b1q2, b1q3, b1q4⟩ := b1.c5
 have b2 := b2.below hb1 b2.lt
 go_wp2_with fail
 refine (HWB.out _).mono ?_
 rintro e w2 ⟨rfl, hb2⟩
 have hB2 := bthen hB1 hb2
 (try clear b0q0 b0q1 b0q2 b0q3 b0q4); have b0 := b0.below hb2 b0.lt; obtain ⟨b0q0, b0q1, b0q2, b0q3, b0q4⟩ := b0.c5; (try clear b1q0 b1q1 b1q2 b1q3 b1q4); have b1 := b1.below hb2 b1.lt; obtain ⟨b1q0, b1q1, b1q2, b1q3, b1q4⟩ := b1.c5
 have b2 := b2.below hb2 b2.lt
 go_wp2_with fail
 refine (HMU.out _).mono ?_
 rintro e w3 ⟨rfl, hb3⟩
 have hB3 := bthen hB2 hb3
 (try clear b2q0 b2q1 b2q2 b2q3 b2q4 b2f0 b2f1 b2f2 b2f3 b2f4 b2s0 b2s1 b2s2 b2s3 b2s4); have b2 := b2.below hb3 b2.lt; obtain ⟨b2q0, b2q1, b2q2, b2q3, b2q4, b2f0, b2f1, b2f2, b2f3, b2f4, b2s0, b2s1, b2s2, b2s3, b2s4⟩ := b2.f5
 go_wp2
 refine bodyPost_ret (v := .agg #[.bool nq, .int .u64 (lo Q : Int), .string (mo Q), .int .u64 ((0 : Nat) : Int), .string ⟨#[]⟩]) (by simp [results, Tryz.results124, go_sem, b2s0, b2s1, b2s2, b2s3, b2s4]) rfl ?_
 exact ⟨rfl, bset5 hB3 (by omega) _ _ _ _ _⟩
set_option maxRecDepth 100000 in
set_option maxHeartbeats 8000000 in
theorem frac_addN (a b : Rat) (w : World) (ha : QS 137438953472 a) (hb : QS 137438953472 b) (hw : (decide (a.den = 1) && decide (b.den = 1)) = false) (hT : Tab w) :
  Calls Tryz.prog 124 #[qV a, qV b] w (Ret (qV (a + b)) w) := by
 have ha1 := ha.1
 have ha2 := ha.2
 have hb1 := hb.1
 have hb2 := hb.2
 have hwa := fun w => frac_isWhole a w (ha.mono (by omega))
 have hwb := fun w => frac_isWhole b w (hb.mono (by omega))
 have hda := fun w => frac_den a w (ha.mono (by omega))
 have hdb := fun w => frac_den b w (hb.mono (by omega))
 have hfa := fun w => whole_from false a.den w (by omega)
 have hfb := fun w => whole_from false b.den w (by omega)
 rw [show signed false a.den = (a.den : Int) from rfl] at hfa
 rw [show signed false b.den = (b.den : Int) from rfl] at hfb
 have hgg := fun w (hT : Tab w) => whole_gcd a.den b.den w (by rw [Int.natAbs_natCast]; omega) (by rw [Int.natAbs_natCast]; omega) hT
 rw [Int.natAbs_natCast, Int.natAbs_natCast] at hgg
 obtain ⟨G, hG⟩ : ∃ G, Nat.gcd a.den b.den = G := ⟨_, rfl⟩
 rw [hG] at hgg
 have g1 : G ∣ a.den := by rw [<- hG]; exact Nat.gcd_dvd_left ..
 have g2 : G ∣ b.den := by rw [<- hG]; exact Nat.gcd_dvd_right ..
 have g3 : G ≠ 0 := fun h => a.den_nz (Nat.gcd_eq_zero_iff.1 (hG.trans h)).1
 have g4 := nt (blen_mono (Nat.le_of_dvd a.den_pos g1)) ha2
 have hfg := fun w => whole_from false G w (by omega)
 rw [show signed false G = (G : Int) from rfl] at hfg
 obtain ⟨D, hD⟩ : ∃ D, a.den / G = D := ⟨_, rfl⟩
 obtain ⟨O, hO⟩ : ∃ O, b.den / G = O := ⟨_, rfl⟩
 have d1 : blen D <= 137438953472 := by rw [<- hD]; have := blen_div a.den G; omega
 have d2 : blen O <= 137438953472 := by rw [<- hO]; have := blen_div b.den G; omega
 have hoa := fun w => frac_over a.den G w (by omega) (by omega) g3
 have hob := fun w => frac_over b.den G w (by omega) (by omega) g3
 rw [hD] at hoa
 rw [hO] at hob
 have hta := fun w => frac_times a.num O w (by omega) (by omega)
 have htb := fun w => frac_times b.num D w (by omega) (by omega)
 have t1 := blen_mulz a.num O
 have t2 := blen_mulz b.num D
 rw [Int.natAbs_natCast] at t1 t2
 have hup := fun w => whole_add (a.num * O) (b.num * D) w (by omega) (by omega)
 have t3 := blen_addz (a.num * O) (b.num * D)
 obtain ⟨U, hU⟩ : ∃ U, a.num * (O : Int) + b.num * (D : Int) = U := ⟨_, rfl⟩
 rw [hU] at hup t3
 have t4 : blen U.natAbs <= 549755813888 := by omega
 have hgh := fun w (hT : Tab w) => whole_gcd U G w t4 (by rw [Int.natAbs_natCast]; omega) hT
 rw [Int.natAbs_natCast] at hgh
 obtain ⟨H, hH⟩ : ∃ H, Nat.gcd U.natAbs G = H := ⟨_, rfl⟩
 rw [hH] at hgh
 have e1 : H ∣ U.natAbs := by rw [<- hH]; exact Nat.gcd_dvd_left ..
 have e2 : H ∣ G := by rw [<- hH]; exact Nat.gcd_dvd_right ..
 have e3 : H ≠ 0 := fun h => g3 (Nat.gcd_eq_zero_iff.1 (hH.trans h)).2
 have e4 := nt (blen_mono (Nat.le_of_dvd (by omega) e2)) g4
 obtain ⟨q1, q2⟩ := rat_add_parts a b hG hD hO hU hH
 have hqs : QS 1099511627776 (a + b) := (ha.add hb).mono (by omega)
 have hpa := fun w => frac_part U H w (by omega) (by omega) e3 e1
 have hoh := fun w => frac_over b.den H w (by omega) (by omega) e3
 have hm2 := fun w => nat_mul D (b.den / H) w (by omega) (by have := blen_div b.den H; omega)
 have hpk := fun w => frac_pack (a + b) w hqs
 rw [<- q1] at hpa
 rw [<- q2] at hm2
 clear q1 q2 hqs g1 g2 g3 g4 d1 d2 t1 t2 t3 t4 e1 e2 e3 e4 hG hD hO hU hH ha hb ha1 ha2 hb1 hb2
 unfold natV at hda hdb hfa hfb hfg hgg hgh hpa hoa hob hoh hta htb hm2 hpk
 unfold intV at hfa hfb hfg hgg hgh hpa hta htb hup hpk
 unfold qV at hwa hwb hda hdb hpk ⊢
 rw [Int.natAbs_natCast] at hfa hfb hfg hgh
 rw [Int.natAbs_natCast, Int.natAbs_natCast] at hgg
 generalize b.den / H = d2 at *
 generalize a.num * (O : Int) = p1 at *
 generalize b.num * (D : Int) = p2 at *
 generalize a + b = q at *
 generalize decide (a.den = 1) = wa at *
 generalize decide (b.den = 1) = wb at *
 generalize decide (a.num < 0) = na at *
 generalize decide (b.num < 0) = nb at *
 generalize decide (q.num < 0) = nq at *
 generalize decide (p1 < 0) = np1 at *
 generalize decide (p2 < 0) = np2 at *
 generalize decide (U < 0) = nu at *
 generalize decide ((a.den : Int) < 0) = nda at *
 generalize decide ((b.den : Int) < 0) = ndb at *
 generalize decide ((G : Int) < 0) = ndg at *
 generalize qden a = ea at *
 generalize qden b = eb at *
 generalize qden q = eq at *
 generalize a.num.natAbs = A at *
 generalize b.num.natAbs = B at *
 generalize q.num.natAbs = Q at *
 generalize p1.natAbs = P1 at *
 generalize p2.natAbs = P2 at *
 generalize U.natAbs = V at *
 generalize a.den = da at *
 generalize b.den = db at *
 generalize q.den = dq at *
 have HWA := lh hwa
 have HWB := lh hwb
 have HDA := lh hda
 have HDB := lh hdb
 have HFA := lh hfa
 have HFB := lh hfb
 have HFG := lh hfg
 have HGG := lh hgg
 have HGH := lh hgh
 have HPA := lh hpa
 have HOA := lh hoa
 have HOB := lh hob
 have HOH := lh hoh
 have HTA := lh hta
 have HTB := lh htb
 have HUP := lh hup
 have HM2 := lh hm2
 have HPK := lh hpk
 clear hwa hwb hda hdb hfa hfb hfg hgg hgh hpa hoa hob hoh hta htb hup hm2 hpk
 have b0 := ((Blk.new w  56 #[.bool na, .int .u64 (lo A : Int), .string (mo A), .int .u64 (lo ea : Int), .string (mo ea)]).alloc (.cells #[.bool nb, .int .u64 (lo B : Int), .string (mo B), .int .u64 (lo eb : Int), .string (mo eb)] 56)).alloc (.cells #[.bool false, .int .u64 0, .string ⟨#[]⟩, .int .u64 0, .string ⟨#[]⟩] 56); have b1 := (Blk.new2 w (.cells #[.bool na, .int .u64 (lo A : Int), .string (mo A), .int .u64 (lo ea : Int), .string (mo ea)] 56) 56 #[.bool nb, .int .u64 (lo B : Int), .string (mo B), .int .u64 (lo eb : Int), .string (mo eb)]).alloc (.cells #[.bool false, .int .u64 0, .string ⟨#[]⟩, .int .u64 0, .string ⟨#[]⟩] 56); have b2 := Blk.new3 w (.cells #[.bool na, .int .u64 (lo A : Int), .string (mo A), .int .u64 (lo ea : Int), .string (mo ea)] 56) (.cells #[.bool nb, .int .u64 (lo B : Int), .string (mo B), .int .u64 (lo eb : Int), .string (mo eb)] 56) 56 #[.bool false, .int .u64 0, .string ⟨#[]⟩, .int .u64 0, .string ⟨#[]⟩]; have hB := balloc3 w (.cells #[.bool na, .int .u64 (lo A : Int), .string (mo A), .int .u64 (lo ea : Int), .string (mo ea)] 56) (.cells #[.bool nb, .int .u64 (lo B : Int), .string (mo B), .int .u64 (lo eb : Int), .string (mo eb)] 56) (.cells #[.bool false, .int .u64 0, .string ⟨#[]⟩, .int .u64 0, .string ⟨#[]⟩] 56); have hZ := lh (show (((w.alloc (.cells #[.bool na, .int .u64 (lo A : Int), .string (mo A), .int .u64 (lo ea : Int), .string (mo ea)] 56)).alloc (.cells #[.bool nb, .int .u64 (lo B : Int), .string (mo B), .int .u64 (lo eb : Int), .string (mo eb)] 56)).alloc (.cells #[.bool false, .int .u64 0, .string ⟨#[]⟩, .int .u64 0, .string ⟨#[]⟩] 56)).heap.size = w.heap.size + 1 + 1 + 1 from by simp)
 have tT := hT.next hB
 go_enter Tryz.func124, Tryz.ntmps124
 go_upto_region 1 with fail
 generalize (((w.alloc (.cells #[.bool na, .int .u64 (lo A : Int), .string (mo A), .int .u64 (lo ea : Int), .string (mo ea)] 56)).alloc (.cells #[.bool nb, .int .u64 (lo B : Int), .string (mo B), .int .u64 (lo eb : Int), .string (mo eb)] 56)).alloc (.cells #[.bool false, .int .u64 0, .string ⟨#[]⟩, .int .u64 0, .string ⟨#[]⟩] 56)) = W at *
 have hzW : W.heap.size = w.heap.size + 1 + 1 + 1 := hZ.out
 go_cut [15] (fun v wc => v = .bool false /\ Below W.heap.size W wc)
 case first =>
  obtain ⟨b0q0, b0q1, b0q2, b0q3, b0q4⟩ := b0.c5; obtain ⟨b1q0, b1q1, b1q2, b1q3, b1q4⟩ := b1.c5
  go_wp2_with fail
  refine (HWA.out _).mono ?_
  rintro e w1 ⟨rfl, hb1⟩
  (try clear b0q0 b0q1 b0q2 b0q3 b0q4); have b0 := b0.below hb1 b0.lt; obtain ⟨b0q0, b0q1, b0q2, b0q3, b0q4⟩ := b0.c5; (try clear b1q0 b1q1 b1q2 b1q3 b1q4); have b1 := b1.below hb1 b1.lt; obtain ⟨b1q0, b1q1, b1q2, b1q3, b1q4⟩ := b1.c5
  cases wa with
  | true =>
   have hwb : wb = false := by simpa using hw
   subst hwb
   go_wp2_with fail
   refine (HWB.out _).mono ?_
   rintro e w2 ⟨rfl, hb2⟩
   go_wp2
   go_meet
   exact ⟨rfl, bthen hb1 hb2⟩
  | false =>
   go_wp2
   go_meet
   exact ⟨rfl, hb1⟩
 case rest =>
  obtain ⟨rfl, hbc⟩ := hcut
  rename World => wc
  clear HWA HWB hw
  have b0 := b0.below hbc b0.lt
  have b1 := b1.below hbc b1.lt
  have b2 := b2.below hbc b2.lt
  have tT := tT.next hbc
  go_upto_region 3 with fail
  go_cut [5] (fun v wd => Born wc 52 #[.int .u64 (lo G : Int), .string (mo G)] v wd)
  case first =>
   obtain ⟨b0q0, b0q1, b0q2, b0q3, b0q4⟩ := b0.c5; have c0z := b0.lt; have c0 := b0.drew; have c0l := c0.lt; obtain ⟨b1q0, b1q1, b1q2, b1q3, b1q4⟩ := b1.c5; have c1z := b1.lt; have c1 := b1.drew; have c1l := c1.lt; have hc := bdrew0 wc; have tT : Tab wc.drew := tT; go_region_held3 (fun w' => w'.cell? ⟨w.heap.size, 0, none⟩ = some (.bool na) /\ w'.cell? ⟨w.heap.size, 1, none⟩ = some (.int .u64 (lo A : Int)) /\ w'.cell? ⟨w.heap.size, 2, none⟩ = some (.string (mo A)) /\ w'.cell? ⟨w.heap.size, 3, none⟩ = some (.int .u64 (lo ea : Int)) /\ w'.cell? ⟨w.heap.size, 4, none⟩ = some (.string (mo ea)) /\ w'.cell? ⟨w.heap.size + 1, 0, none⟩ = some (.bool nb) /\ w'.cell? ⟨w.heap.size + 1, 1, none⟩ = some (.int .u64 (lo B : Int)) /\ w'.cell? ⟨w.heap.size + 1, 2, none⟩ = some (.string (mo B)) /\ w'.cell? ⟨w.heap.size + 1, 3, none⟩ = some (.int .u64 (lo eb : Int)) /\ w'.cell? ⟨w.heap.size + 1, 4, none⟩ = some (.string (mo eb))) (go_keep) (first | (go_at_call 67; refine (HDA.out _).mono ?_; rintro e w1 ⟨rfl, hw1⟩; (first | have c0 := c0.ya hw1 | have c0 := c0.yb hw1 | have c0 := c0.yc hw1); (try clear c0q0 c0q1 c0q2 c0q3 c0q4); obtain ⟨c0q0, c0q1, c0q2, c0q3, c0q4⟩ := c0.c5; (try clear c0l); have c0l := c0.lt; (first | have c1 := c1.ya hw1 | have c1 := c1.yb hw1 | have c1 := c1.yc hw1); (try clear c1q0 c1q1 c1q2 c1q3 c1q4); obtain ⟨c1q0, c1q1, c1q2, c1q3, c1q4⟩ := c1.c5; (try clear c1l); have c1l := c1.lt; (try (first | have ca := ca.below hw1 ca.lt | have ca := (ca.alloc _).below hw1 (ca.alloc _).lt)); (first | have tT := tT.next hw1 | have tT := (tT.next (balloc1 _ _)).next hw1 | have tT := (tT.next (balloc2 _ _ _)).next hw1); (first | have hc := bthen hc hw1 | (have hb1 := born1d hc hw1; obtain ⟨ca, hga, hc⟩ := hb1) | (have hb1 := born1 hc hw1; obtain ⟨ca, hga, hc⟩ := hb1)); (try have c0na := nelt c0z hga); (try have c1na := nelt c1z hga)) | (go_at_call 74; refine (HFA.out _).mono ?_; rintro e w2 ⟨rfl, hw2⟩; (first | have c0 := c0.ya hw2 | have c0 := c0.yb hw2 | have c0 := c0.yc hw2); (try clear c0q0 c0q1 c0q2 c0q3 c0q4); obtain ⟨c0q0, c0q1, c0q2, c0q3, c0q4⟩ := c0.c5; (try clear c0l); have c0l := c0.lt; (first | have c1 := c1.ya hw2 | have c1 := c1.yb hw2 | have c1 := c1.yc hw2); (try clear c1q0 c1q1 c1q2 c1q3 c1q4); obtain ⟨c1q0, c1q1, c1q2, c1q3, c1q4⟩ := c1.c5; (try clear c1l); have c1l := c1.lt; (try (first | have ca := ca.below hw2 ca.lt | have ca := (ca.alloc _).below hw2 (ca.alloc _).lt)); (first | have tT := tT.next hw2 | have tT := (tT.next (balloc1 _ _)).next hw2 | have tT := (tT.next (balloc2 _ _ _)).next hw2); (first | have hc := bthen hc hw2 | (have hb1 := born1d hc hw2; obtain ⟨ca, hga, hc⟩ := hb1) | (have hb1 := born1 hc hw2; obtain ⟨ca, hga, hc⟩ := hb1)); (try have c0na := nelt c0z hga); (try have c1na := nelt c1z hga)) | (go_at_call 67; refine (HDB.out _).mono ?_; rintro e w3 ⟨rfl, hw3⟩; (first | have c0 := c0.ya hw3 | have c0 := c0.yb hw3 | have c0 := c0.yc hw3); (try clear c0q0 c0q1 c0q2 c0q3 c0q4); obtain ⟨c0q0, c0q1, c0q2, c0q3, c0q4⟩ := c0.c5; (try clear c0l); have c0l := c0.lt; (first | have c1 := c1.ya hw3 | have c1 := c1.yb hw3 | have c1 := c1.yc hw3); (try clear c1q0 c1q1 c1q2 c1q3 c1q4); obtain ⟨c1q0, c1q1, c1q2, c1q3, c1q4⟩ := c1.c5; (try clear c1l); have c1l := c1.lt; (try (first | have ca := ca.below hw3 ca.lt | have ca := (ca.alloc _).below hw3 (ca.alloc _).lt)); (first | have tT := tT.next hw3 | have tT := (tT.next (balloc1 _ _)).next hw3 | have tT := (tT.next (balloc2 _ _ _)).next hw3); (first | have hc := bthen hc hw3 | (have hb1 := born1d hc hw3; obtain ⟨ca, hga, hc⟩ := hb1) | (have hb1 := born1 hc hw3; obtain ⟨ca, hga, hc⟩ := hb1)); (try have c0na := nelt c0z hga); (try have c1na := nelt c1z hga)) | (go_at_call 74; refine (HFB.out _).mono ?_; rintro e w4 ⟨rfl, hw4⟩; (first | have c0 := c0.ya hw4 | have c0 := c0.yb hw4 | have c0 := c0.yc hw4); (try clear c0q0 c0q1 c0q2 c0q3 c0q4); obtain ⟨c0q0, c0q1, c0q2, c0q3, c0q4⟩ := c0.c5; (try clear c0l); have c0l := c0.lt; (first | have c1 := c1.ya hw4 | have c1 := c1.yb hw4 | have c1 := c1.yc hw4); (try clear c1q0 c1q1 c1q2 c1q3 c1q4); obtain ⟨c1q0, c1q1, c1q2, c1q3, c1q4⟩ := c1.c5; (try clear c1l); have c1l := c1.lt; (try (first | have ca := ca.below hw4 ca.lt | have ca := (ca.alloc _).below hw4 (ca.alloc _).lt)); (first | have tT := tT.next hw4 | have tT := (tT.next (balloc1 _ _)).next hw4 | have tT := (tT.next (balloc2 _ _ _)).next hw4); (first | have hc := bthen hc hw4 | (have hb1 := born1d hc hw4; obtain ⟨ca, hga, hc⟩ := hb1) | (have hb1 := born1 hc hw4; obtain ⟨ca, hga, hc⟩ := hb1)); (try have c0na := nelt c0z hga); (try have c1na := nelt c1z hga)) | (go_at_call 79; (first | refine (HGG.out _ tT).mono ?_ | refine (HGG.out _ (tT.next (balloc1 _ _))).mono ?_ | refine (HGG.out _ (tT.next (balloc2 _ _ _))).mono ?_); rintro e w5 ⟨rfl, hw5⟩; (first | have c0 := c0.ya hw5 | have c0 := c0.yb hw5 | have c0 := c0.yc hw5); (try clear c0q0 c0q1 c0q2 c0q3 c0q4); obtain ⟨c0q0, c0q1, c0q2, c0q3, c0q4⟩ := c0.c5; (try clear c0l); have c0l := c0.lt; (first | have c1 := c1.ya hw5 | have c1 := c1.yb hw5 | have c1 := c1.yc hw5); (try clear c1q0 c1q1 c1q2 c1q3 c1q4); obtain ⟨c1q0, c1q1, c1q2, c1q3, c1q4⟩ := c1.c5; (try clear c1l); have c1l := c1.lt; (try (first | have ca := ca.below hw5 ca.lt | have ca := (ca.alloc _).below hw5 (ca.alloc _).lt)); (first | have hc := bthen hc hw5 | (have hb1 := born1d hc hw5; obtain ⟨ca, hga, hc⟩ := hb1) | (have hb1 := born1 hc hw5; obtain ⟨ca, hga, hc⟩ := hb1)); (try have c0na := nelt c0z hga); (try have c1na := nelt c1z hga); (try (have cal := ca.lt; obtain ⟨caq0, caq1, caf0, caf1, cas0, cas1⟩ := ca.f2))))
   all_goals
    go_wp2
    go_meet
    (first | exact one2 hc ca hga | exact one2 (bthen hc (balloc1 _ _)) (Blk.new _ _ _) hc.size | exact ⟨_, rfl, hc.size, Blk.new _ _ _, bthen hc (balloc1 _ _)⟩)
  case rest =>
   obtain ⟨g5, rfl, hg, b5, hbd⟩ := hcut
   rename World => wd
   have b0 := b0.below hbd b0.lt
   have b1 := b1.below hbd b1.lt
   have b2 := b2.below hbd b2.lt
   have tT := tT.next hbd
   have hg5 := nt hbc.size hg
   have hbe := bthen hbc hbd
   clear hbc hbd hg HFA HFB HGG
   go_upto_region 4 with fail
   go_cut [6, 7] (fun v v' we => Born2 wd 52 #[.int .u64 (lo D : Int), .string (mo D)] 52 #[.int .u64 (lo O : Int), .string (mo O)] v v' we)
   case first =>
    obtain ⟨b0q0, b0q1, b0q2, b0q3, b0q4⟩ := b0.c5; have c0z := b0.lt; have c0 := b0.drew; have c0l := c0.lt; obtain ⟨b1q0, b1q1, b1q2, b1q3, b1q4⟩ := b1.c5; have c1z := b1.lt; have c1 := b1.drew; have c1l := c1.lt; obtain ⟨b5q0, b5q1⟩ := b5.c2; have c5z := b5.lt; have c5 := b5.drew; have c5l := c5.lt; have hc := bdrew0 wd; go_region_held3 (fun w' => w'.cell? ⟨w.heap.size, 0, none⟩ = some (.bool na) /\ w'.cell? ⟨w.heap.size, 1, none⟩ = some (.int .u64 (lo A : Int)) /\ w'.cell? ⟨w.heap.size, 2, none⟩ = some (.string (mo A)) /\ w'.cell? ⟨w.heap.size, 3, none⟩ = some (.int .u64 (lo ea : Int)) /\ w'.cell? ⟨w.heap.size, 4, none⟩ = some (.string (mo ea)) /\ w'.cell? ⟨w.heap.size + 1, 0, none⟩ = some (.bool nb) /\ w'.cell? ⟨w.heap.size + 1, 1, none⟩ = some (.int .u64 (lo B : Int)) /\ w'.cell? ⟨w.heap.size + 1, 2, none⟩ = some (.string (mo B)) /\ w'.cell? ⟨w.heap.size + 1, 3, none⟩ = some (.int .u64 (lo eb : Int)) /\ w'.cell? ⟨w.heap.size + 1, 4, none⟩ = some (.string (mo eb)) /\ w'.cell? ⟨g5, 0, none⟩ = some (.int .u64 (lo G : Int)) /\ w'.cell? ⟨g5, 1, none⟩ = some (.string (mo G))) (go_keep) (first | (go_at_call 67; refine (HDA.out _).mono ?_; rintro e w1 ⟨rfl, hw1⟩; (first | have c0 := c0.ya hw1 | have c0 := c0.yb hw1 | have c0 := c0.yc hw1); (try clear c0q0 c0q1 c0q2 c0q3 c0q4); obtain ⟨c0q0, c0q1, c0q2, c0q3, c0q4⟩ := c0.c5; (try clear c0l); have c0l := c0.lt; (first | have c1 := c1.ya hw1 | have c1 := c1.yb hw1 | have c1 := c1.yc hw1); (try clear c1q0 c1q1 c1q2 c1q3 c1q4); obtain ⟨c1q0, c1q1, c1q2, c1q3, c1q4⟩ := c1.c5; (try clear c1l); have c1l := c1.lt; (first | have c5 := c5.ya hw1 | have c5 := c5.yb hw1 | have c5 := c5.yc hw1); (try clear c5q0 c5q1); obtain ⟨c5q0, c5q1⟩ := c5.c2; (try clear c5l); have c5l := c5.lt; (try have hl0 := ca.lt); (try (first | have ca := ca.below hw1 ca.lt | have ca := (ca.alloc _).below hw1 (ca.alloc _).lt)); (try (first | have cd := cd.below hw1 cd.lt | have cd := (cd.alloc _).below hw1 (cd.alloc _).lt)); (first | have hc := bthen hc hw1 | (have hlt := hl0; have hb1 := born1 hc hw1; obtain ⟨cd, hgd, hc⟩ := hb1) | (have hb1 := born1d hc hw1; obtain ⟨ca, hga, hc⟩ := hb1) | (have hb1 := born1 hc hw1; obtain ⟨ca, hga, hc⟩ := hb1) | (have hb1 := born2d hc hw1; obtain ⟨ca, hga, cd, hgd, hlt, hc⟩ := hb1) | (have hb1 := born2 hc hw1; obtain ⟨ca, hga, cd, hgd, hlt, hc⟩ := hb1)); (try have c0na := nelt c0z hga); (try have c0nc := nelt c0z hgd); (try have c1na := nelt c1z hga); (try have c1nc := nelt c1z hgd); (try have c5na := nelt c5z hga); (try have c5nc := nelt c5z hgd); (try have hna := nelt hlt zd)) | (go_at_call 82; refine (HOA.out _).mono ?_; rintro e w2 ⟨rfl, hw2⟩; (first | have c0 := c0.ya hw2 | have c0 := c0.yb hw2 | have c0 := c0.yc hw2); (try clear c0q0 c0q1 c0q2 c0q3 c0q4); obtain ⟨c0q0, c0q1, c0q2, c0q3, c0q4⟩ := c0.c5; (try clear c0l); have c0l := c0.lt; (first | have c1 := c1.ya hw2 | have c1 := c1.yb hw2 | have c1 := c1.yc hw2); (try clear c1q0 c1q1 c1q2 c1q3 c1q4); obtain ⟨c1q0, c1q1, c1q2, c1q3, c1q4⟩ := c1.c5; (try clear c1l); have c1l := c1.lt; (first | have c5 := c5.ya hw2 | have c5 := c5.yb hw2 | have c5 := c5.yc hw2); (try clear c5q0 c5q1); obtain ⟨c5q0, c5q1⟩ := c5.c2; (try clear c5l); have c5l := c5.lt; (try have hl0 := ca.lt); (try (first | have ca := ca.below hw2 ca.lt | have ca := (ca.alloc _).below hw2 (ca.alloc _).lt)); (try (first | have cd := cd.below hw2 cd.lt | have cd := (cd.alloc _).below hw2 (cd.alloc _).lt)); (first | have hc := bthen hc hw2 | (have hlt := hl0; have hb1 := born1 hc hw2; obtain ⟨cd, hgd, hc⟩ := hb1) | (have hb1 := born1d hc hw2; obtain ⟨ca, hga, hc⟩ := hb1) | (have hb1 := born1 hc hw2; obtain ⟨ca, hga, hc⟩ := hb1) | (have hb1 := born2d hc hw2; obtain ⟨ca, hga, cd, hgd, hlt, hc⟩ := hb1) | (have hb1 := born2 hc hw2; obtain ⟨ca, hga, cd, hgd, hlt, hc⟩ := hb1)); (try have c0na := nelt c0z hga); (try have c0nc := nelt c0z hgd); (try have c1na := nelt c1z hga); (try have c1nc := nelt c1z hgd); (try have c5na := nelt c5z hga); (try have c5nc := nelt c5z hgd); (try have hna := nelt hlt zd)) | (go_at_call 67; refine (HDB.out _).mono ?_; rintro e w3 ⟨rfl, hw3⟩; (first | have c0 := c0.ya hw3 | have c0 := c0.yb hw3 | have c0 := c0.yc hw3); (try clear c0q0 c0q1 c0q2 c0q3 c0q4); obtain ⟨c0q0, c0q1, c0q2, c0q3, c0q4⟩ := c0.c5; (try clear c0l); have c0l := c0.lt; (first | have c1 := c1.ya hw3 | have c1 := c1.yb hw3 | have c1 := c1.yc hw3); (try clear c1q0 c1q1 c1q2 c1q3 c1q4); obtain ⟨c1q0, c1q1, c1q2, c1q3, c1q4⟩ := c1.c5; (try clear c1l); have c1l := c1.lt; (first | have c5 := c5.ya hw3 | have c5 := c5.yb hw3 | have c5 := c5.yc hw3); (try clear c5q0 c5q1); obtain ⟨c5q0, c5q1⟩ := c5.c2; (try clear c5l); have c5l := c5.lt; (try have hl0 := ca.lt); (try (first | have ca := ca.below hw3 ca.lt | have ca := (ca.alloc _).below hw3 (ca.alloc _).lt)); (try (first | have cd := cd.below hw3 cd.lt | have cd := (cd.alloc _).below hw3 (cd.alloc _).lt)); (first | have hc := bthen hc hw3 | (have hlt := hl0; have hb1 := born1 hc hw3; obtain ⟨cd, hgd, hc⟩ := hb1) | (have hb1 := born1d hc hw3; obtain ⟨ca, hga, hc⟩ := hb1) | (have hb1 := born1 hc hw3; obtain ⟨ca, hga, hc⟩ := hb1) | (have hb1 := born2d hc hw3; obtain ⟨ca, hga, cd, hgd, hlt, hc⟩ := hb1) | (have hb1 := born2 hc hw3; obtain ⟨ca, hga, cd, hgd, hlt, hc⟩ := hb1)); (try have c0na := nelt c0z hga); (try have c0nc := nelt c0z hgd); (try have c1na := nelt c1z hga); (try have c1nc := nelt c1z hgd); (try have c5na := nelt c5z hga); (try have c5nc := nelt c5z hgd); (try have hna := nelt hlt zd)) | (go_at_call 82; refine (HOB.out _).mono ?_; rintro e w4 ⟨rfl, hw4⟩; (first | have c0 := c0.ya hw4 | have c0 := c0.yb hw4 | have c0 := c0.yc hw4); (try clear c0q0 c0q1 c0q2 c0q3 c0q4); obtain ⟨c0q0, c0q1, c0q2, c0q3, c0q4⟩ := c0.c5; (try clear c0l); have c0l := c0.lt; (first | have c1 := c1.ya hw4 | have c1 := c1.yb hw4 | have c1 := c1.yc hw4); (try clear c1q0 c1q1 c1q2 c1q3 c1q4); obtain ⟨c1q0, c1q1, c1q2, c1q3, c1q4⟩ := c1.c5; (try clear c1l); have c1l := c1.lt; (first | have c5 := c5.ya hw4 | have c5 := c5.yb hw4 | have c5 := c5.yc hw4); (try clear c5q0 c5q1); obtain ⟨c5q0, c5q1⟩ := c5.c2; (try clear c5l); have c5l := c5.lt; (try have hl0 := ca.lt); (try (first | have ca := ca.below hw4 ca.lt | have ca := (ca.alloc _).below hw4 (ca.alloc _).lt)); (try (first | have cd := cd.below hw4 cd.lt | have cd := (cd.alloc _).below hw4 (cd.alloc _).lt)); (first | have hc := bthen hc hw4 | (have hlt := hl0; have hb1 := born1 hc hw4; obtain ⟨cd, hgd, hc⟩ := hb1) | (have hb1 := born1d hc hw4; obtain ⟨ca, hga, hc⟩ := hb1) | (have hb1 := born1 hc hw4; obtain ⟨ca, hga, hc⟩ := hb1) | (have hb1 := born2d hc hw4; obtain ⟨ca, hga, cd, hgd, hlt, hc⟩ := hb1) | (have hb1 := born2 hc hw4; obtain ⟨ca, hga, cd, hgd, hlt, hc⟩ := hb1)); (try have c0na := nelt c0z hga); (try have c0nc := nelt c0z hgd); (try have c1na := nelt c1z hga); (try have c1nc := nelt c1z hgd); (try have c5na := nelt c5z hga); (try have c5nc := nelt c5z hgd); (try have hna := nelt hlt zd); (try (have cal := ca.lt; obtain ⟨caq0, caq1, caf0, caf1, cas0, cas1⟩ := ca.f2)); (try (have cdl := cd.lt; obtain ⟨cdq0, cdq1, cdf0, cdf1, cds0, cds1⟩ := cd.f2))))
    all_goals
     go_wp2
     go_meet
     (have hcs := hc.size; first | with_reducible exact twoL hc | with_reducible exact twoLs hc | with_reducible exact twoM hc ca hga | with_reducible exact twoMs hc ca hga | (with_reducible refine two22 hc ca cd ?_ ?_ ?_) <;> omega | (with_reducible refine two22 hc cd ca ?_ ?_ ?_) <;> omega)
   case rest =>
    obtain ⟨g6, g7, rfl, rfl, h67, h6, h7, b6, b7, hbf⟩ := hcut
    rename World => we
    have b0 := b0.below hbf b0.lt
    have b1 := b1.below hbf b1.lt
    have b2 := b2.below hbf b2.lt
    have b5 := b5.below hbf b5.lt
    have tT := tT.next hbf
    have hg6 := nt hbe.size h6
    have hbg := bthen hbe hbf
    clear hbe hbf h6 h7 HDA HOA HOB h67
    go_upto_region 5 with fail
    go_cut [8] (fun v wf => Born we 54 #[.bool nu, .int .u64 (lo V : Int), .string (mo V)] v wf)
    case first =>
     obtain ⟨b0q0, b0q1, b0q2, b0q3, b0q4⟩ := b0.c5; have c0z := b0.lt; have c0 := b0.drew; have c0l := c0.lt; obtain ⟨b1q0, b1q1, b1q2, b1q3, b1q4⟩ := b1.c5; have c1z := b1.lt; have c1 := b1.drew; have c1l := c1.lt; obtain ⟨b6q0, b6q1⟩ := b6.c2; have c6z := b6.lt; have c6 := b6.drew; have c6l := c6.lt; obtain ⟨b7q0, b7q1⟩ := b7.c2; have c7z := b7.lt; have c7 := b7.drew; have c7l := c7.lt; have hc := bdrew0 we; go_region_held3 (fun w' => w'.cell? ⟨w.heap.size, 0, none⟩ = some (.bool na) /\ w'.cell? ⟨w.heap.size, 1, none⟩ = some (.int .u64 (lo A : Int)) /\ w'.cell? ⟨w.heap.size, 2, none⟩ = some (.string (mo A)) /\ w'.cell? ⟨w.heap.size, 3, none⟩ = some (.int .u64 (lo ea : Int)) /\ w'.cell? ⟨w.heap.size, 4, none⟩ = some (.string (mo ea)) /\ w'.cell? ⟨w.heap.size + 1, 0, none⟩ = some (.bool nb) /\ w'.cell? ⟨w.heap.size + 1, 1, none⟩ = some (.int .u64 (lo B : Int)) /\ w'.cell? ⟨w.heap.size + 1, 2, none⟩ = some (.string (mo B)) /\ w'.cell? ⟨w.heap.size + 1, 3, none⟩ = some (.int .u64 (lo eb : Int)) /\ w'.cell? ⟨w.heap.size + 1, 4, none⟩ = some (.string (mo eb)) /\ w'.cell? ⟨g6, 0, none⟩ = some (.int .u64 (lo D : Int)) /\ w'.cell? ⟨g6, 1, none⟩ = some (.string (mo D)) /\ w'.cell? ⟨g7, 0, none⟩ = some (.int .u64 (lo O : Int)) /\ w'.cell? ⟨g7, 1, none⟩ = some (.string (mo O))) (go_keep) (first | (go_at_call 66; refine (HTA.out _).mono ?_; rintro e w1 ⟨rfl, hw1⟩; (first | have c0 := c0.ya hw1 | have c0 := c0.yb hw1 | have c0 := c0.yc hw1); (try clear c0q0 c0q1 c0q2 c0q3 c0q4); obtain ⟨c0q0, c0q1, c0q2, c0q3, c0q4⟩ := c0.c5; (try clear c0l); have c0l := c0.lt; (first | have c1 := c1.ya hw1 | have c1 := c1.yb hw1 | have c1 := c1.yc hw1); (try clear c1q0 c1q1 c1q2 c1q3 c1q4); obtain ⟨c1q0, c1q1, c1q2, c1q3, c1q4⟩ := c1.c5; (try clear c1l); have c1l := c1.lt; (first | have c6 := c6.ya hw1 | have c6 := c6.yb hw1 | have c6 := c6.yc hw1); (try clear c6q0 c6q1); obtain ⟨c6q0, c6q1⟩ := c6.c2; (try clear c6l); have c6l := c6.lt; (first | have c7 := c7.ya hw1 | have c7 := c7.yb hw1 | have c7 := c7.yc hw1); (try clear c7q0 c7q1); obtain ⟨c7q0, c7q1⟩ := c7.c2; (try clear c7l); have c7l := c7.lt; (try (first | have ca := ca.below hw1 ca.lt | have ca := (ca.alloc _).below hw1 (ca.alloc _).lt)); (first | have hc := bthen hc hw1 | (have hb1 := born1d hc hw1; obtain ⟨ca, hga, hc⟩ := hb1) | (have hb1 := born1 hc hw1; obtain ⟨ca, hga, hc⟩ := hb1)); (try have c0na := nelt c0z hga); (try have c1na := nelt c1z hga); (try have c6na := nelt c6z hga); (try have c7na := nelt c7z hga)) | (go_at_call 66; refine (HTB.out _).mono ?_; rintro e w2 ⟨rfl, hw2⟩; (first | have c0 := c0.ya hw2 | have c0 := c0.yb hw2 | have c0 := c0.yc hw2); (try clear c0q0 c0q1 c0q2 c0q3 c0q4); obtain ⟨c0q0, c0q1, c0q2, c0q3, c0q4⟩ := c0.c5; (try clear c0l); have c0l := c0.lt; (first | have c1 := c1.ya hw2 | have c1 := c1.yb hw2 | have c1 := c1.yc hw2); (try clear c1q0 c1q1 c1q2 c1q3 c1q4); obtain ⟨c1q0, c1q1, c1q2, c1q3, c1q4⟩ := c1.c5; (try clear c1l); have c1l := c1.lt; (first | have c6 := c6.ya hw2 | have c6 := c6.yb hw2 | have c6 := c6.yc hw2); (try clear c6q0 c6q1); obtain ⟨c6q0, c6q1⟩ := c6.c2; (try clear c6l); have c6l := c6.lt; (first | have c7 := c7.ya hw2 | have c7 := c7.yb hw2 | have c7 := c7.yc hw2); (try clear c7q0 c7q1); obtain ⟨c7q0, c7q1⟩ := c7.c2; (try clear c7l); have c7l := c7.lt; (try (first | have ca := ca.below hw2 ca.lt | have ca := (ca.alloc _).below hw2 (ca.alloc _).lt)); (first | have hc := bthen hc hw2 | (have hb1 := born1d hc hw2; obtain ⟨ca, hga, hc⟩ := hb1) | (have hb1 := born1 hc hw2; obtain ⟨ca, hga, hc⟩ := hb1)); (try have c0na := nelt c0z hga); (try have c1na := nelt c1z hga); (try have c6na := nelt c6z hga); (try have c7na := nelt c7z hga)) | (go_at_call 156; refine (HUP.out _).mono ?_; rintro e w3 ⟨rfl, hw3⟩; (first | have c0 := c0.ya hw3 | have c0 := c0.yb hw3 | have c0 := c0.yc hw3); (try clear c0q0 c0q1 c0q2 c0q3 c0q4); obtain ⟨c0q0, c0q1, c0q2, c0q3, c0q4⟩ := c0.c5; (try clear c0l); have c0l := c0.lt; (first | have c1 := c1.ya hw3 | have c1 := c1.yb hw3 | have c1 := c1.yc hw3); (try clear c1q0 c1q1 c1q2 c1q3 c1q4); obtain ⟨c1q0, c1q1, c1q2, c1q3, c1q4⟩ := c1.c5; (try clear c1l); have c1l := c1.lt; (first | have c6 := c6.ya hw3 | have c6 := c6.yb hw3 | have c6 := c6.yc hw3); (try clear c6q0 c6q1); obtain ⟨c6q0, c6q1⟩ := c6.c2; (try clear c6l); have c6l := c6.lt; (first | have c7 := c7.ya hw3 | have c7 := c7.yb hw3 | have c7 := c7.yc hw3); (try clear c7q0 c7q1); obtain ⟨c7q0, c7q1⟩ := c7.c2; (try clear c7l); have c7l := c7.lt; (try (first | have ca := ca.below hw3 ca.lt | have ca := (ca.alloc _).below hw3 (ca.alloc _).lt)); (first | have hc := bthen hc hw3 | (have hb1 := born1d hc hw3; obtain ⟨ca, hga, hc⟩ := hb1) | (have hb1 := born1 hc hw3; obtain ⟨ca, hga, hc⟩ := hb1)); (try have c0na := nelt c0z hga); (try have c1na := nelt c1z hga); (try have c6na := nelt c6z hga); (try have c7na := nelt c7z hga); (try (have cal := ca.lt; obtain ⟨caq0, caq1, caq2, caf0, caf1, caf2, cas0, cas1, cas2⟩ := ca.f3))))
     all_goals
      go_wp2
      go_meet
      (first | exact one3 hc ca hga | exact one3 (bthen hc (balloc1 _ _)) (Blk.new _ _ _) hc.size | exact ⟨_, rfl, hc.size, Blk.new _ _ _, bthen hc (balloc1 _ _)⟩)
    case rest =>
     obtain ⟨g8, rfl, hg, b8, hbh⟩ := hcut
     rename World => wf
     have b1 := b1.below hbh b1.lt
     have b2 := b2.below hbh b2.lt
     have b5 := b5.below hbh b5.lt
     have b6 := b6.below hbh b6.lt
     have tT := tT.next hbh
     have hg8 := nt hbg.size hg
     have hbi := bthen hbg hbh
     clear hbg hbh hg HTA HTB HUP b0 b7
     go_upto_region 6 with fail
     go_cut [9] (fun v wh => Born wf 52 #[.int .u64 (lo H : Int), .string (mo H)] v wh)
     case first =>
      obtain ⟨b8q0, b8q1, b8q2⟩ := b8.c3; have c8z := b8.lt; have c8 := b8.drew; have c8l := c8.lt; obtain ⟨b5q0, b5q1⟩ := b5.c2; have c5z := b5.lt; have c5 := b5.drew; have c5l := c5.lt; have hc := bdrew0 wf; have tT : Tab wf.drew := tT; go_region_held3 (fun w' => w'.cell? ⟨g8, 0, none⟩ = some (.bool nu) /\ w'.cell? ⟨g8, 1, none⟩ = some (.int .u64 (lo V : Int)) /\ w'.cell? ⟨g8, 2, none⟩ = some (.string (mo V)) /\ w'.cell? ⟨g5, 0, none⟩ = some (.int .u64 (lo G : Int)) /\ w'.cell? ⟨g5, 1, none⟩ = some (.string (mo G))) (go_keep) (first | (go_at_call 74; refine (HFG.out _).mono ?_; rintro e w1 ⟨rfl, hw1⟩; (first | have c8 := c8.ya hw1 | have c8 := c8.yb hw1 | have c8 := c8.yc hw1); (try clear c8q0 c8q1 c8q2); obtain ⟨c8q0, c8q1, c8q2⟩ := c8.c3; (try clear c8l); have c8l := c8.lt; (first | have c5 := c5.ya hw1 | have c5 := c5.yb hw1 | have c5 := c5.yc hw1); (try clear c5q0 c5q1); obtain ⟨c5q0, c5q1⟩ := c5.c2; (try clear c5l); have c5l := c5.lt; (try (first | have ca := ca.below hw1 ca.lt | have ca := (ca.alloc _).below hw1 (ca.alloc _).lt)); (first | have tT := tT.next hw1 | have tT := (tT.next (balloc1 _ _)).next hw1 | have tT := (tT.next (balloc2 _ _ _)).next hw1); (first | have hc := bthen hc hw1 | (have hb1 := born1d hc hw1; obtain ⟨ca, hga, hc⟩ := hb1) | (have hb1 := born1 hc hw1; obtain ⟨ca, hga, hc⟩ := hb1)); (try have c8na := nelt c8z hga); (try have c5na := nelt c5z hga)) | (go_at_call 79; (first | refine (HGH.out _ tT).mono ?_ | refine (HGH.out _ (tT.next (balloc1 _ _))).mono ?_ | refine (HGH.out _ (tT.next (balloc2 _ _ _))).mono ?_); rintro e w2 ⟨rfl, hw2⟩; (first | have c8 := c8.ya hw2 | have c8 := c8.yb hw2 | have c8 := c8.yc hw2); (try clear c8q0 c8q1 c8q2); obtain ⟨c8q0, c8q1, c8q2⟩ := c8.c3; (try clear c8l); have c8l := c8.lt; (first | have c5 := c5.ya hw2 | have c5 := c5.yb hw2 | have c5 := c5.yc hw2); (try clear c5q0 c5q1); obtain ⟨c5q0, c5q1⟩ := c5.c2; (try clear c5l); have c5l := c5.lt; (try (first | have ca := ca.below hw2 ca.lt | have ca := (ca.alloc _).below hw2 (ca.alloc _).lt)); (first | have hc := bthen hc hw2 | (have hb1 := born1d hc hw2; obtain ⟨ca, hga, hc⟩ := hb1) | (have hb1 := born1 hc hw2; obtain ⟨ca, hga, hc⟩ := hb1)); (try have c8na := nelt c8z hga); (try have c5na := nelt c5z hga); (try (have cal := ca.lt; obtain ⟨caq0, caq1, caf0, caf1, cas0, cas1⟩ := ca.f2))))
      all_goals
       go_wp2
       go_meet
       (first | exact one2 hc ca hga | exact one2 (bthen hc (balloc1 _ _)) (Blk.new _ _ _) hc.size | exact ⟨_, rfl, hc.size, Blk.new _ _ _, bthen hc (balloc1 _ _)⟩)
     case rest =>
      obtain ⟨g9, rfl, hg, b9, hbj⟩ := hcut
      rename World => wh
      have b1 := b1.below hbj b1.lt
      have b2 := b2.below hbj b2.lt
      have b6 := b6.below hbj b6.lt
      have b8 := b8.below hbj b8.lt
      have hg9 := nt hbi.size hg
      have hbk := bthen hB (bthen hbi hbj)
      clear hbi hbj hg HFG HGH tT b5
      have n1 := nelt (show w.heap.size + 1 < w.heap.size + 1 + 1 by omega) zd
      have n2 := nelt (show w.heap.size + 1 + 1 < W.heap.size by omega) hg6
      have n3 := nelt (show w.heap.size + 1 + 1 < W.heap.size by omega) hg8
      have n4 := nelt (show w.heap.size + 1 + 1 < W.heap.size by omega) hg9
      go_upto_region 7 with fail
      obtain ⟨b1q0, b1q1, b1q2, b1q3, b1q4⟩ := b1.c5; have c1z := b1.lt; have c1 := b1.drew; have c1l := c1.lt; obtain ⟨b6q0, b6q1⟩ := b6.c2; have c6z := b6.lt; have c6 := b6.drew; have c6l := c6.lt; obtain ⟨b8q0, b8q1, b8q2⟩ := b8.c3; have c8z := b8.lt; have c8 := b8.drew; have c8l := c8.lt; obtain ⟨b9q0, b9q1⟩ := b9.c2; have c9z := b9.lt; have c9 := b9.drew; have c9l := c9.lt; have c2 := b2.drew; have c2l := c2.lt; have hc := bdrew0 wh; go_region_held3 (fun w' => w'.cell? ⟨w.heap.size + 1, 0, none⟩ = some (.bool nb) /\ w'.cell? ⟨w.heap.size + 1, 1, none⟩ = some (.int .u64 (lo B : Int)) /\ w'.cell? ⟨w.heap.size + 1, 2, none⟩ = some (.string (mo B)) /\ w'.cell? ⟨w.heap.size + 1, 3, none⟩ = some (.int .u64 (lo eb : Int)) /\ w'.cell? ⟨w.heap.size + 1, 4, none⟩ = some (.string (mo eb)) /\ w'.cell? ⟨g6, 0, none⟩ = some (.int .u64 (lo D : Int)) /\ w'.cell? ⟨g6, 1, none⟩ = some (.string (mo D)) /\ w'.cell? ⟨g8, 0, none⟩ = some (.bool nu) /\ w'.cell? ⟨g8, 1, none⟩ = some (.int .u64 (lo V : Int)) /\ w'.cell? ⟨g8, 2, none⟩ = some (.string (mo V)) /\ w'.cell? ⟨g9, 0, none⟩ = some (.int .u64 (lo H : Int)) /\ w'.cell? ⟨g9, 1, none⟩ = some (.string (mo H))) (go_keep) (first | (go_at_call 81; refine (HPA.out _).mono ?_; rintro e w1 ⟨rfl, hw1⟩; (first | have c1 := c1.ya hw1 | have c1 := c1.yb hw1 | have c1 := c1.yc hw1); (try clear c1q0 c1q1 c1q2 c1q3 c1q4); obtain ⟨c1q0, c1q1, c1q2, c1q3, c1q4⟩ := c1.c5; (try clear c1l); have c1l := c1.lt; (first | have c6 := c6.ya hw1 | have c6 := c6.yb hw1 | have c6 := c6.yc hw1); (try clear c6q0 c6q1); obtain ⟨c6q0, c6q1⟩ := c6.c2; (try clear c6l); have c6l := c6.lt; (first | have c8 := c8.ya hw1 | have c8 := c8.yb hw1 | have c8 := c8.yc hw1); (try clear c8q0 c8q1 c8q2); obtain ⟨c8q0, c8q1, c8q2⟩ := c8.c3; (try clear c8l); have c8l := c8.lt; (first | have c9 := c9.ya hw1 | have c9 := c9.yb hw1 | have c9 := c9.yc hw1); (try clear c9q0 c9q1); obtain ⟨c9q0, c9q1⟩ := c9.c2; (try clear c9l); have c9l := c9.lt; (first | have c2 := c2.ya hw1 | have c2 := c2.yb hw1 | have c2 := c2.yc hw1); (try clear c2l); have c2l := c2.lt; have hc := bthen hc hw1) | (go_at_call 67; refine (HDB.out _).mono ?_; rintro e w2 ⟨rfl, hw2⟩; (first | have c1 := c1.ya hw2 | have c1 := c1.yb hw2 | have c1 := c1.yc hw2); (try clear c1q0 c1q1 c1q2 c1q3 c1q4); obtain ⟨c1q0, c1q1, c1q2, c1q3, c1q4⟩ := c1.c5; (try clear c1l); have c1l := c1.lt; (first | have c6 := c6.ya hw2 | have c6 := c6.yb hw2 | have c6 := c6.yc hw2); (try clear c6q0 c6q1); obtain ⟨c6q0, c6q1⟩ := c6.c2; (try clear c6l); have c6l := c6.lt; (first | have c8 := c8.ya hw2 | have c8 := c8.yb hw2 | have c8 := c8.yc hw2); (try clear c8q0 c8q1 c8q2); obtain ⟨c8q0, c8q1, c8q2⟩ := c8.c3; (try clear c8l); have c8l := c8.lt; (first | have c9 := c9.ya hw2 | have c9 := c9.yb hw2 | have c9 := c9.yc hw2); (try clear c9q0 c9q1); obtain ⟨c9q0, c9q1⟩ := c9.c2; (try clear c9l); have c9l := c9.lt; (first | have c2 := c2.ya hw2 | have c2 := c2.yb hw2 | have c2 := c2.yc hw2); (try clear c2l); have c2l := c2.lt; have hc := bthen hc hw2) | (go_at_call 82; refine (HOH.out _).mono ?_; rintro e w3 ⟨rfl, hw3⟩; (first | have c1 := c1.ya hw3 | have c1 := c1.yb hw3 | have c1 := c1.yc hw3); (try clear c1q0 c1q1 c1q2 c1q3 c1q4); obtain ⟨c1q0, c1q1, c1q2, c1q3, c1q4⟩ := c1.c5; (try clear c1l); have c1l := c1.lt; (first | have c6 := c6.ya hw3 | have c6 := c6.yb hw3 | have c6 := c6.yc hw3); (try clear c6q0 c6q1); obtain ⟨c6q0, c6q1⟩ := c6.c2; (try clear c6l); have c6l := c6.lt; (first | have c8 := c8.ya hw3 | have c8 := c8.yb hw3 | have c8 := c8.yc hw3); (try clear c8q0 c8q1 c8q2); obtain ⟨c8q0, c8q1, c8q2⟩ := c8.c3; (try clear c8l); have c8l := c8.lt; (first | have c9 := c9.ya hw3 | have c9 := c9.yb hw3 | have c9 := c9.yc hw3); (try clear c9q0 c9q1); obtain ⟨c9q0, c9q1⟩ := c9.c2; (try clear c9l); have c9l := c9.lt; (first | have c2 := c2.ya hw3 | have c2 := c2.yb hw3 | have c2 := c2.yc hw3); (try clear c2l); have c2l := c2.lt; have hc := bthen hc hw3) | (go_at_call 83; refine (HM2.out _).mono ?_; rintro e w4 ⟨rfl, hw4⟩; (first | have c1 := c1.ya hw4 | have c1 := c1.yb hw4 | have c1 := c1.yc hw4); (try clear c1q0 c1q1 c1q2 c1q3 c1q4); obtain ⟨c1q0, c1q1, c1q2, c1q3, c1q4⟩ := c1.c5; (try clear c1l); have c1l := c1.lt; (first | have c6 := c6.ya hw4 | have c6 := c6.yb hw4 | have c6 := c6.yc hw4); (try clear c6q0 c6q1); obtain ⟨c6q0, c6q1⟩ := c6.c2; (try clear c6l); have c6l := c6.lt; (first | have c8 := c8.ya hw4 | have c8 := c8.yb hw4 | have c8 := c8.yc hw4); (try clear c8q0 c8q1 c8q2); obtain ⟨c8q0, c8q1, c8q2⟩ := c8.c3; (try clear c8l); have c8l := c8.lt; (first | have c9 := c9.ya hw4 | have c9 := c9.yb hw4 | have c9 := c9.yc hw4); (try clear c9q0 c9q1); obtain ⟨c9q0, c9q1⟩ := c9.c2; (try clear c9l); have c9l := c9.lt; (first | have c2 := c2.ya hw4 | have c2 := c2.yb hw4 | have c2 := c2.yc hw4); (try clear c2l); have c2l := c2.lt; have hc := bthen hc hw4) | (go_at_call 80; refine (HPK.out _).mono ?_; rintro e w5 ⟨rfl, hw5⟩; (first | have c1 := c1.ya hw5 | have c1 := c1.yb hw5 | have c1 := c1.yc hw5); (try clear c1q0 c1q1 c1q2 c1q3 c1q4); obtain ⟨c1q0, c1q1, c1q2, c1q3, c1q4⟩ := c1.c5; (try clear c1l); have c1l := c1.lt; (first | have c6 := c6.ya hw5 | have c6 := c6.yb hw5 | have c6 := c6.yc hw5); (try clear c6q0 c6q1); obtain ⟨c6q0, c6q1⟩ := c6.c2; (try clear c6l); have c6l := c6.lt; (first | have c8 := c8.ya hw5 | have c8 := c8.yb hw5 | have c8 := c8.yc hw5); (try clear c8q0 c8q1 c8q2); obtain ⟨c8q0, c8q1, c8q2⟩ := c8.c3; (try clear c8l); have c8l := c8.lt; (first | have c9 := c9.ya hw5 | have c9 := c9.yb hw5 | have c9 := c9.yc hw5); (try clear c9q0 c9q1); obtain ⟨c9q0, c9q1⟩ := c9.c2; (try clear c9l); have c9l := c9.lt; (first | have c2 := c2.ya hw5 | have c2 := c2.yb hw5 | have c2 := c2.yc hw5); (try clear c2l); have c2l := c2.lt; have hc := bthen hc hw5; obtain ⟨c2q0, c2q1, c2q2, c2q3, c2q4, c2f0, c2f1, c2f2, c2f3, c2f4, c2s0, c2s1, c2s2, c2s3, c2s4⟩ := c2.f5))
      all_goals
       go_wp2
       refine bodyPost_ret (v := .agg #[.bool nq, .int .u64 (lo Q : Int), .string (mo Q), .int .u64 (lo eq : Int), .string (mo eq)]) (by simp [results, Tryz.results124, go_sem, c2s0, c2s1, c2s2, c2s3, c2s4]) rfl ?_
       exact ⟨rfl, bset5 (bthen hbk hc) (by omega) _ _ _ _ _⟩
theorem frac_add (a b : Rat) (w : World) (ha : QS 137438953472 a) (hb : QS 137438953472 b) (hT : Tab w) :
  Calls Tryz.prog 124 #[qV a, qV b] w (Ret (qV (a + b)) w) := by
 by_cases h1 : a.den = 1
 ·by_cases h2 : b.den = 1
  ·exact frac_addW a b w ha hb h1 h2
  exact frac_addN a b w ha hb (by simp [h2]) hT
 exact frac_addN a b w ha hb (by simp [h1]) hT
end Go.Proofs.YtecnjlcfoobepaaGreatDoor
