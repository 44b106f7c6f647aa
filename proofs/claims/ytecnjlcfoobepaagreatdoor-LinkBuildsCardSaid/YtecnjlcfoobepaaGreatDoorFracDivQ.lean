import Derived.Test.YtecnjlcfoobepaaGreatDoorFracMul
import Derived.Test.YtecnjlcfoobepaaGreatDoorFracCmp
namespace Go.Proofs.YtecnjlcfoobepaaGreatDoor
set_option maxRecDepth 100000
set_option maxHeartbeats 2000000
open Go.RowKit
set_option linter.unusedSimpArgs false
set_option linter.unusedVariables false
theorem inv_parts {b : Rat} (h : b ≠ 0) : signed (decide (b.num.sign < 0)) b.den = b⁻¹.num /\ b.num.natAbs = b⁻¹.den := by
 have hn : b.num ≠ 0 := fun e => h (Rat.num_eq_zero.1 e)
 rw [Rat.num_inv, Rat.den_inv, if_neg hn]
 refine ⟨?_, rfl⟩
 rcases Int.lt_or_gt_of_ne hn with h1 | h1
 ·rw [Int.sign_eq_neg_one_of_neg h1]
  simp [signed]
 rw [Int.sign_eq_one_of_pos h1]
 simp [signed]
theorem frac_div (a b : Rat) (w : World) (ha : QS 549755813888 a) (hb : QS 549755813888 b) (hb0 : b ≠ 0) (hT : Tab w) :
  Calls Tryz.prog 87 #[qV a, qV b] w (Ret (.tuple #[qV (a / b), .bool true]) w) := by
 have hsg := fun w => frac_sign b w (hb.mono (by omega))
 have hdn := fun w => frac_den b w (hb.mono (by omega))
 have hfr := fun w => whole_from (decide (b.num.sign < 0)) b.den w (nt hb.2 (by omega))
 have hab := fun w => whole_abs b.num w
 obtain ⟨e1, e2⟩ := inv_parts hb0
 rw [e1] at hfr
 rw [e2] at hab
 have hi := hb.inv (by omega)
 have hpk := fun w => frac_pack b⁻¹ w (hi.mono (by omega))
 have hmu := fun w (hT : Tab w) => frac_mul a b⁻¹ w ha hi hT
 rw [<- Rat.div_def] at hmu
 have hs0 : ¬ b.num.sign = 0 := fun e => hb0 (Rat.num_eq_zero.1 (Int.sign_eq_zero_iff_zero.1 e))
 clear e1 e2 hi ha hb hb0
 generalize b⁻¹ = p at *
 generalize a / b = q at *
 generalize b.num.sign = sg at *
 generalize hng : decide (sg < 0) = ng at *
 have hs1 : (sg == 0) = false := by simp [hs0]
 have hs2 : (sg != 0) = true := by simp [hs0]
 unfold qV at hsg hdn hpk hmu ⊢
 unfold intV at hfr hab hpk
 unfold natV at hdn hfr hab hpk
 have HSG := lh hsg
 have HDN := lh hdn
 have HFR := lh hfr
 have HAB := lh hab
 have HPK := lh hpk
 have HMU := lh hmu
 clear hsg hdn hfr hab hpk hmu
 generalize decide (b.num < 0) = nb at *
 generalize b.num.natAbs = bn at *
 generalize qden b = bd at *
 generalize decide (a.num < 0) = na at *
 generalize a.num.natAbs = an at *
 generalize qden a = ad at *
 generalize b.den = bdd at *
 generalize hpn : decide (p.num < 0) = np at *
 clear hpn
 generalize p.num.natAbs = pn at *
 generalize p.den = pd at *
 have b0 := ((Blk.new w  56 #[.bool na, .int .u64 (lo an : Int), .string (mo an), .int .u64 (lo ad : Int), .string (mo ad)]).alloc (.cells #[.bool nb, .int .u64 (lo bn : Int), .string (mo bn), .int .u64 (lo bd : Int), .string (mo bd)] 56)).alloc (.cells #[.bool false, .int .u64 0, .string ⟨#[]⟩, .int .u64 0, .string ⟨#[]⟩] 56); have b1 := (Blk.new2 w (.cells #[.bool na, .int .u64 (lo an : Int), .string (mo an), .int .u64 (lo ad : Int), .string (mo ad)] 56) 56 #[.bool nb, .int .u64 (lo bn : Int), .string (mo bn), .int .u64 (lo bd : Int), .string (mo bd)]).alloc (.cells #[.bool false, .int .u64 0, .string ⟨#[]⟩, .int .u64 0, .string ⟨#[]⟩] 56); have b2 := Blk.new3 w (.cells #[.bool na, .int .u64 (lo an : Int), .string (mo an), .int .u64 (lo ad : Int), .string (mo ad)] 56) (.cells #[.bool nb, .int .u64 (lo bn : Int), .string (mo bn), .int .u64 (lo bd : Int), .string (mo bd)] 56) 56 #[.bool false, .int .u64 0, .string ⟨#[]⟩, .int .u64 0, .string ⟨#[]⟩]; have hB := balloc3 w (.cells #[.bool na, .int .u64 (lo an : Int), .string (mo an), .int .u64 (lo ad : Int), .string (mo ad)] 56) (.cells #[.bool nb, .int .u64 (lo bn : Int), .string (mo bn), .int .u64 (lo bd : Int), .string (mo bd)] 56) (.cells #[.bool false, .int .u64 0, .string ⟨#[]⟩, .int .u64 0, .string ⟨#[]⟩] 56); have hZ := lh (show (((w.alloc (.cells #[.bool na, .int .u64 (lo an : Int), .string (mo an), .int .u64 (lo ad : Int), .string (mo ad)] 56)).alloc (.cells #[.bool nb, .int .u64 (lo bn : Int), .string (mo bn), .int .u64 (lo bd : Int), .string (mo bd)] 56)).alloc (.cells #[.bool false, .int .u64 0, .string ⟨#[]⟩, .int .u64 0, .string ⟨#[]⟩] 56)).heap.size = w.heap.size + 1 + 1 + 1 from by simp)
 have ne1 : ¬ w.heap.size = w.heap.size + 1 + 1 := by omega
 have ne2 : ¬ w.heap.size + 1 = w.heap.size + 1 + 1 := by omega
 have ne3 : ¬ w.heap.size + 1 + 1 = w.heap.size := by omega
 have ne4 : ¬ w.heap.size + 1 + 1 = w.heap.size + 1 := by omega
 go_enter Tryz.func87, Tryz.ntmps87
 go_wp2_with fail
 generalize ((w.alloc (.cells #[.bool na, .int .u64 (lo an : Int), .string (mo an), .int .u64 (lo ad : Int), .string (mo ad)] 56)).alloc (.cells #[.bool nb, .int .u64 (lo bn : Int), .string (mo bn), .int .u64 (lo bd : Int), .string (mo bd)] 56)).alloc (.cells #[.bool false, .int .u64 0, .string ⟨#[]⟩, .int .u64 0, .string ⟨#[]⟩] 56) = W at *
 refine (HSG.out W).mono ?_
 rintro e w1 ⟨rfl, hb1⟩
 have hB := bthen hB hb1
 have b0 := b0.below hb1 b0.lt
 have b1 := b1.below hb1 b1.lt
 have b2 := b2.below hb1 b2.lt
 have tT := hT.next hB
 go_upto_region 2 with fail
 obtain ⟨b0q0, b0q1, b0q2, b0q3, b0q4⟩ := b0.c5; have c0z := b0.lt; have c0 := b0.drew; have c0l := c0.lt; obtain ⟨b1q0, b1q1, b1q2, b1q3, b1q4⟩ := b1.c5; have c1z := b1.lt; have c1 := b1.drew; have c1l := c1.lt; have c2 := b2.drew; have c2l := c2.lt; have hc := bdrew0 w1; have tT : Tab w1.drew := tT; go_region_held3 (fun w' => w'.cell? ⟨w.heap.size, 0, none⟩ = some (.bool na) /\ w'.cell? ⟨w.heap.size, 1, none⟩ = some (.int .u64 (lo an : Int)) /\ w'.cell? ⟨w.heap.size, 2, none⟩ = some (.string (mo an)) /\ w'.cell? ⟨w.heap.size, 3, none⟩ = some (.int .u64 (lo ad : Int)) /\ w'.cell? ⟨w.heap.size, 4, none⟩ = some (.string (mo ad)) /\ w'.cell? ⟨w.heap.size + 1, 0, none⟩ = some (.bool nb) /\ w'.cell? ⟨w.heap.size + 1, 1, none⟩ = some (.int .u64 (lo bn : Int)) /\ w'.cell? ⟨w.heap.size + 1, 2, none⟩ = some (.string (mo bn)) /\ w'.cell? ⟨w.heap.size + 1, 3, none⟩ = some (.int .u64 (lo bd : Int)) /\ w'.cell? ⟨w.heap.size + 1, 4, none⟩ = some (.string (mo bd))) (go_keep) (first | (go_at_call 49; refine (HSG.out _).mono ?_; rintro e w1 ⟨rfl, hw1⟩; (first | have c0 := c0.ya hw1 | have c0 := c0.yb hw1 | have c0 := c0.yc hw1); (try clear c0q0 c0q1 c0q2 c0q3 c0q4); obtain ⟨c0q0, c0q1, c0q2, c0q3, c0q4⟩ := c0.c5; (try clear c0l); have c0l := c0.lt; (first | have c1 := c1.ya hw1 | have c1 := c1.yb hw1 | have c1 := c1.yc hw1); (try clear c1q0 c1q1 c1q2 c1q3 c1q4); obtain ⟨c1q0, c1q1, c1q2, c1q3, c1q4⟩ := c1.c5; (try clear c1l); have c1l := c1.lt; (first | have c2 := c2.ya hw1 | have c2 := c2.yb hw1 | have c2 := c2.yc hw1); (try clear c2l); have c2l := c2.lt; (first | have tT := tT.next hw1 | have tT := (tT.next (balloc1 _ _)).next hw1 | have tT := (tT.next (balloc2 _ _ _)).next hw1); have hc := bthen hc hw1) | (go_at_call 67; refine (HDN.out _).mono ?_; rintro e w2 ⟨rfl, hw2⟩; (first | have c0 := c0.ya hw2 | have c0 := c0.yb hw2 | have c0 := c0.yc hw2); (try clear c0q0 c0q1 c0q2 c0q3 c0q4); obtain ⟨c0q0, c0q1, c0q2, c0q3, c0q4⟩ := c0.c5; (try clear c0l); have c0l := c0.lt; (first | have c1 := c1.ya hw2 | have c1 := c1.yb hw2 | have c1 := c1.yc hw2); (try clear c1q0 c1q1 c1q2 c1q3 c1q4); obtain ⟨c1q0, c1q1, c1q2, c1q3, c1q4⟩ := c1.c5; (try clear c1l); have c1l := c1.lt; (first | have c2 := c2.ya hw2 | have c2 := c2.yb hw2 | have c2 := c2.yc hw2); (try clear c2l); have c2l := c2.lt; (first | have tT := tT.next hw2 | have tT := (tT.next (balloc1 _ _)).next hw2 | have tT := (tT.next (balloc2 _ _ _)).next hw2); have hc := bthen hc hw2) | (go_at_call 74; refine (HFR.out _).mono ?_; rintro e w3 ⟨rfl, hw3⟩; (first | have c0 := c0.ya hw3 | have c0 := c0.yb hw3 | have c0 := c0.yc hw3); (try clear c0q0 c0q1 c0q2 c0q3 c0q4); obtain ⟨c0q0, c0q1, c0q2, c0q3, c0q4⟩ := c0.c5; (try clear c0l); have c0l := c0.lt; (first | have c1 := c1.ya hw3 | have c1 := c1.yb hw3 | have c1 := c1.yc hw3); (try clear c1q0 c1q1 c1q2 c1q3 c1q4); obtain ⟨c1q0, c1q1, c1q2, c1q3, c1q4⟩ := c1.c5; (try clear c1l); have c1l := c1.lt; (first | have c2 := c2.ya hw3 | have c2 := c2.yb hw3 | have c2 := c2.yc hw3); (try clear c2l); have c2l := c2.lt; (first | have tT := tT.next hw3 | have tT := (tT.next (balloc1 _ _)).next hw3 | have tT := (tT.next (balloc2 _ _ _)).next hw3); have hc := bthen hc hw3) | (go_at_call 110; refine (HAB.out _).mono ?_; rintro e w4 ⟨rfl, hw4⟩; (first | have c0 := c0.ya hw4 | have c0 := c0.yb hw4 | have c0 := c0.yc hw4); (try clear c0q0 c0q1 c0q2 c0q3 c0q4); obtain ⟨c0q0, c0q1, c0q2, c0q3, c0q4⟩ := c0.c5; (try clear c0l); have c0l := c0.lt; (first | have c1 := c1.ya hw4 | have c1 := c1.yb hw4 | have c1 := c1.yc hw4); (try clear c1q0 c1q1 c1q2 c1q3 c1q4); obtain ⟨c1q0, c1q1, c1q2, c1q3, c1q4⟩ := c1.c5; (try clear c1l); have c1l := c1.lt; (first | have c2 := c2.ya hw4 | have c2 := c2.yb hw4 | have c2 := c2.yc hw4); (try clear c2l); have c2l := c2.lt; (first | have tT := tT.next hw4 | have tT := (tT.next (balloc1 _ _)).next hw4 | have tT := (tT.next (balloc2 _ _ _)).next hw4); have hc := bthen hc hw4) | (go_at_call 80; refine (HPK.out _).mono ?_; rintro e w5 ⟨rfl, hw5⟩; (first | have c0 := c0.ya hw5 | have c0 := c0.yb hw5 | have c0 := c0.yc hw5); (try clear c0q0 c0q1 c0q2 c0q3 c0q4); obtain ⟨c0q0, c0q1, c0q2, c0q3, c0q4⟩ := c0.c5; (try clear c0l); have c0l := c0.lt; (first | have c1 := c1.ya hw5 | have c1 := c1.yb hw5 | have c1 := c1.yc hw5); (try clear c1q0 c1q1 c1q2 c1q3 c1q4); obtain ⟨c1q0, c1q1, c1q2, c1q3, c1q4⟩ := c1.c5; (try clear c1l); have c1l := c1.lt; (first | have c2 := c2.ya hw5 | have c2 := c2.yb hw5 | have c2 := c2.yc hw5); (try clear c2l); have c2l := c2.lt; (first | have tT := tT.next hw5 | have tT := (tT.next (balloc1 _ _)).next hw5 | have tT := (tT.next (balloc2 _ _ _)).next hw5); have hc := bthen hc hw5) | (go_at_call 37; (first | refine (HMU.out _ tT).mono ?_ | refine (HMU.out _ (tT.next (balloc1 _ _))).mono ?_ | refine (HMU.out _ (tT.next (balloc2 _ _ _))).mono ?_); rintro e w6 ⟨rfl, hw6⟩; (first | have c0 := c0.ya hw6 | have c0 := c0.yb hw6 | have c0 := c0.yc hw6); (try clear c0q0 c0q1 c0q2 c0q3 c0q4); obtain ⟨c0q0, c0q1, c0q2, c0q3, c0q4⟩ := c0.c5; (try clear c0l); have c0l := c0.lt; (first | have c1 := c1.ya hw6 | have c1 := c1.yb hw6 | have c1 := c1.yc hw6); (try clear c1q0 c1q1 c1q2 c1q3 c1q4); obtain ⟨c1q0, c1q1, c1q2, c1q3, c1q4⟩ := c1.c5; (try clear c1l); have c1l := c1.lt; (first | have c2 := c2.ya hw6 | have c2 := c2.yb hw6 | have c2 := c2.yc hw6); (try clear c2l); have c2l := c2.lt; have hc := bthen hc hw6; obtain ⟨c2q0, c2q1, c2q2, c2q3, c2q4, c2f0, c2f1, c2f2, c2f3, c2f4, c2s0, c2s1, c2s2, c2s3, c2s4⟩ := c2.f5))
 all_goals
  go_wp2
  refine bodyPost_ret (v := .tuple #[.agg #[.bool (decide (q.num < 0)), .int .u64 (lo q.num.natAbs : Int), .string (mo q.num.natAbs), .int .u64 (lo ((qden q)) : Int), .string (mo ((qden q)))], .bool true]) (by simp [results, Tryz.results87, go_sem, c2s0, c2s1, c2s2, c2s3, c2s4]) rfl ?_
  exact ⟨rfl, bset5 (bthen hB hc) (by omega) _ _ _ _ _⟩
theorem cmp_lt (a b : Rat) : cmpQ b a < 0 ↔ b < a := by
 unfold cmpQ
 by_cases h : b < a
 ·simp [h]
 simp only [h, if_false, iff_false]
 split <;> omega
theorem cmp_gt (a b : Rat) : 0 < cmpQ b a ↔ a < b := by
 unfold cmpQ
 by_cases h : b < a
 ·have h2 : ¬ a < b := by grind
  simp [h, h2]
 by_cases h2 : a < b
 ·simp [h, h2]
 simp [h, h2]
theorem frac_min (a b : Rat) (w : World) (ha : QS 549755813888 a) (hb : QS 549755813888 b) : Calls Tryz.prog 130 #[qV a, qV b] w (Ret (qV (if b < a then b else a)) w) := by
 have hcm := fun w => frac_cmp b a w hb ha
 have hlt := cmp_lt a b
 generalize cmpQ b a = cv at *
 obtain ⟨r, hr⟩ : ∃ r, (if b < a then b else a) = r := ⟨_, rfl⟩
 have hr1 : cv < 0 -> r = b := fun h => by rw [<- hr, if_pos (hlt.1 h)]
 have hr2 : ¬ cv < 0 -> r = a := fun h => by rw [<- hr, if_neg (fun e => h (hlt.2 e))]
 rw [hr]
 clear hr hlt ha hb
 unfold qV at hcm ⊢
 have HCM := lh hcm
 clear hcm
 have b0 := ((Blk.new w  56 #[.bool (decide (a.num < 0)), .int .u64 (lo a.num.natAbs : Int), .string (mo a.num.natAbs), .int .u64 (lo ((qden a)) : Int), .string (mo ((qden a)))]).alloc (.cells #[.bool (decide (b.num < 0)), .int .u64 (lo b.num.natAbs : Int), .string (mo b.num.natAbs), .int .u64 (lo ((qden b)) : Int), .string (mo ((qden b)))] 56)).alloc (.cells #[.bool false, .int .u64 0, .string ⟨#[]⟩, .int .u64 0, .string ⟨#[]⟩] 56); have b1 := (Blk.new2 w (.cells #[.bool (decide (a.num < 0)), .int .u64 (lo a.num.natAbs : Int), .string (mo a.num.natAbs), .int .u64 (lo ((qden a)) : Int), .string (mo ((qden a)))] 56) 56 #[.bool (decide (b.num < 0)), .int .u64 (lo b.num.natAbs : Int), .string (mo b.num.natAbs), .int .u64 (lo ((qden b)) : Int), .string (mo ((qden b)))]).alloc (.cells #[.bool false, .int .u64 0, .string ⟨#[]⟩, .int .u64 0, .string ⟨#[]⟩] 56); have b2 := Blk.new3 w (.cells #[.bool (decide (a.num < 0)), .int .u64 (lo a.num.natAbs : Int), .string (mo a.num.natAbs), .int .u64 (lo ((qden a)) : Int), .string (mo ((qden a)))] 56) (.cells #[.bool (decide (b.num < 0)), .int .u64 (lo b.num.natAbs : Int), .string (mo b.num.natAbs), .int .u64 (lo ((qden b)) : Int), .string (mo ((qden b)))] 56) 56 #[.bool false, .int .u64 0, .string ⟨#[]⟩, .int .u64 0, .string ⟨#[]⟩]; have hB := balloc3 w (.cells #[.bool (decide (a.num < 0)), .int .u64 (lo a.num.natAbs : Int), .string (mo a.num.natAbs), .int .u64 (lo ((qden a)) : Int), .string (mo ((qden a)))] 56) (.cells #[.bool (decide (b.num < 0)), .int .u64 (lo b.num.natAbs : Int), .string (mo b.num.natAbs), .int .u64 (lo ((qden b)) : Int), .string (mo ((qden b)))] 56) (.cells #[.bool false, .int .u64 0, .string ⟨#[]⟩, .int .u64 0, .string ⟨#[]⟩] 56); have hZ := lh (show (((w.alloc (.cells #[.bool (decide (a.num < 0)), .int .u64 (lo a.num.natAbs : Int), .string (mo a.num.natAbs), .int .u64 (lo ((qden a)) : Int), .string (mo ((qden a)))] 56)).alloc (.cells #[.bool (decide (b.num < 0)), .int .u64 (lo b.num.natAbs : Int), .string (mo b.num.natAbs), .int .u64 (lo ((qden b)) : Int), .string (mo ((qden b)))] 56)).alloc (.cells #[.bool false, .int .u64 0, .string ⟨#[]⟩, .int .u64 0, .string ⟨#[]⟩] 56)).heap.size = w.heap.size + 1 + 1 + 1 from by simp)
 go_enter Tryz.func130, Tryz.ntmps130
 go_wp2_with fail
 generalize (((w.alloc (.cells #[.bool (decide (a.num < 0)), .int .u64 (lo a.num.natAbs : Int), .string (mo a.num.natAbs), .int .u64 (lo ((qden a)) : Int), .string (mo ((qden a)))] 56)).alloc (.cells #[.bool (decide (b.num < 0)), .int .u64 (lo b.num.natAbs : Int), .string (mo b.num.natAbs), .int .u64 (lo ((qden b)) : Int), .string (mo ((qden b)))] 56)).alloc (.cells #[.bool false, .int .u64 0, .string ⟨#[]⟩, .int .u64 0, .string ⟨#[]⟩] 56)) = W at *
 refine (HCM.out W).mono ?_
 rintro e w1 ⟨rfl, hb1⟩
 have hB := bthen hB hb1
 have b0 := b0.below hb1 b0.lt
 have b1 := b1.below hb1 b1.lt
 have b2 := b2.below hb1 b2.lt
 have ne1 : ¬ w.heap.size = w.heap.size + 1 + 1 := by omega
 have ne2 : ¬ w.heap.size + 1 = w.heap.size + 1 + 1 := by omega
 obtain ⟨b0q0, b0q1, b0q2, b0q3, b0q4⟩ := b0.c5
 obtain ⟨b1q0, b1q1, b1q2, b1q3, b1q4⟩ := b1.c5
 obtain ⟨b2q0, b2q1, b2q2, b2q3, b2q4, b2f0, b2f1, b2f2, b2f3, b2f4, b2s0, b2s1, b2s2, b2s3, b2s4⟩ := b2.f5
 by_cases h : cv < 0
 ·obtain rfl := hr1 h
  have q1 : decide (cv < 0) = true := decide_eq_true h
  clear hr1 hr2
  go_wp2
  refine bodyPost_ret (v := .agg #[.bool (decide (r.num < 0)), .int .u64 (lo r.num.natAbs : Int), .string (mo r.num.natAbs), .int .u64 (lo ((qden r)) : Int), .string (mo ((qden r)))]) (by simp [results, Tryz.results130, go_sem, b2s0, b2s1, b2s2, b2s3, b2s4]) rfl ?_
  exact ⟨rfl, bset5 hB (by omega) _ _ _ _ _⟩
 obtain rfl := hr2 (by omega)
 have q1 : decide (cv < 0) = false := decide_eq_false h
 clear hr1 hr2
 go_wp2
 refine bodyPost_ret (v := .agg #[.bool (decide (r.num < 0)), .int .u64 (lo r.num.natAbs : Int), .string (mo r.num.natAbs), .int .u64 (lo ((qden r)) : Int), .string (mo ((qden r)))]) (by simp [results, Tryz.results130, go_sem, b2s0, b2s1, b2s2, b2s3, b2s4]) rfl ?_
 exact ⟨rfl, bset5 hB (by omega) _ _ _ _ _⟩
theorem frac_max (a b : Rat) (w : World) (ha : QS 549755813888 a) (hb : QS 549755813888 b) : Calls Tryz.prog 31 #[qV a, qV b] w (Ret (qV (if a < b then b else a)) w) := by
 have hcm := fun w => frac_cmp b a w hb ha
 have hlt := cmp_gt a b
 generalize cmpQ b a = cv at *
 obtain ⟨r, hr⟩ : ∃ r, (if a < b then b else a) = r := ⟨_, rfl⟩
 have hr1 : 0 < cv -> r = b := fun h => by rw [<- hr, if_pos (hlt.1 h)]
 have hr2 : ¬ 0 < cv -> r = a := fun h => by rw [<- hr, if_neg (fun e => h (hlt.2 e))]
 rw [hr]
 clear hr hlt ha hb
 unfold qV at hcm ⊢
 have HCM := lh hcm
 clear hcm
 have b0 := ((Blk.new w  56 #[.bool (decide (a.num < 0)), .int .u64 (lo a.num.natAbs : Int), .string (mo a.num.natAbs), .int .u64 (lo ((qden a)) : Int), .string (mo ((qden a)))]).alloc (.cells #[.bool (decide (b.num < 0)), .int .u64 (lo b.num.natAbs : Int), .string (mo b.num.natAbs), .int .u64 (lo ((qden b)) : Int), .string (mo ((qden b)))] 56)).alloc (.cells #[.bool false, .int .u64 0, .string ⟨#[]⟩, .int .u64 0, .string ⟨#[]⟩] 56); have b1 := (Blk.new2 w (.cells #[.bool (decide (a.num < 0)), .int .u64 (lo a.num.natAbs : Int), .string (mo a.num.natAbs), .int .u64 (lo ((qden a)) : Int), .string (mo ((qden a)))] 56) 56 #[.bool (decide (b.num < 0)), .int .u64 (lo b.num.natAbs : Int), .string (mo b.num.natAbs), .int .u64 (lo ((qden b)) : Int), .string (mo ((qden b)))]).alloc (.cells #[.bool false, .int .u64 0, .string ⟨#[]⟩, .int .u64 0, .string ⟨#[]⟩] 56); have b2 := Blk.new3 w (.cells #[.bool (decide (a.num < 0)), .int .u64 (lo a.num.natAbs : Int), .string (mo a.num.natAbs), .int .u64 (lo ((qden a)) : Int), .string (mo ((qden a)))] 56) (.cells #[.bool (decide (b.num < 0)), .int .u64 (lo b.num.natAbs : Int), .string (mo b.num.natAbs), .int .u64 (lo ((qden b)) : Int), .string (mo ((qden b)))] 56) 56 #[.bool false, .int .u64 0, .string ⟨#[]⟩, .int .u64 0, .string ⟨#[]⟩]; have hB := balloc3 w (.cells #[.bool (decide (a.num < 0)), .int .u64 (lo a.num.natAbs : Int), .string (mo a.num.natAbs), .int .u64 (lo ((qden a)) : Int), .string (mo ((qden a)))] 56) (.cells #[.bool (decide (b.num < 0)), .int .u64 (lo b.num.natAbs : Int), .string (mo b.num.natAbs), .int .u64 (lo ((qden b)) : Int), .string (mo ((qden b)))] 56) (.cells #[.bool false, .int .u64 0, .string ⟨#[]⟩, .int .u64 0, .string ⟨#[]⟩] 56); have hZ := lh (show (((w.alloc (.cells #[.bool (decide (a.num < 0)), .int .u64 (lo a.num.natAbs : Int), .string (mo a.num.natAbs), .int .u64 (lo ((qden a)) : Int), .string (mo ((qden a)))] 56)).alloc (.cells #[.bool (decide (b.num < 0)), .int .u64 (lo b.num.natAbs : Int), .string (mo b.num.natAbs), .int .u64 (lo ((qden b)) : Int), .string (mo ((qden b)))] 56)).alloc (.cells #[.bool false, .int .u64 0, .string ⟨#[]⟩, .int .u64 0, .string ⟨#[]⟩] 56)).heap.size = w.heap.size + 1 + 1 + 1 from by simp)
 go_enter Tryz.func31, Tryz.ntmps31
 go_wp2_with fail
 generalize (((w.alloc (.cells #[.bool (decide (a.num < 0)), .int .u64 (lo a.num.natAbs : Int), .string (mo a.num.natAbs), .int .u64 (lo ((qden a)) : Int), .string (mo ((qden a)))] 56)).alloc (.cells #[.bool (decide (b.num < 0)), .int .u64 (lo b.num.natAbs : Int), .string (mo b.num.natAbs), .int .u64 (lo ((qden b)) : Int), .string (mo ((qden b)))] 56)).alloc (.cells #[.bool false, .int .u64 0, .string ⟨#[]⟩, .int .u64 0, .string ⟨#[]⟩] 56)) = W at *
 refine (HCM.out W).mono ?_
 rintro e w1 ⟨rfl, hb1⟩
 have hB := bthen hB hb1
 have b0 := b0.below hb1 b0.lt
 have b1 := b1.below hb1 b1.lt
 have b2 := b2.below hb1 b2.lt
 have ne1 : ¬ w.heap.size = w.heap.size + 1 + 1 := by omega
 have ne2 : ¬ w.heap.size + 1 = w.heap.size + 1 + 1 := by omega
 obtain ⟨b0q0, b0q1, b0q2, b0q3, b0q4⟩ := b0.c5
 obtain ⟨b1q0, b1q1, b1q2, b1q3, b1q4⟩ := b1.c5
 obtain ⟨b2q0, b2q1, b2q2, b2q3, b2q4, b2f0, b2f1, b2f2, b2f3, b2f4, b2s0, b2s1, b2s2, b2s3, b2s4⟩ := b2.f5
 by_cases h : 0 < cv
 ·obtain rfl := hr1 h
  have q1 : decide (0 < cv) = true := decide_eq_true h
  clear hr1 hr2
  go_wp2
  refine bodyPost_ret (v := .agg #[.bool (decide (r.num < 0)), .int .u64 (lo r.num.natAbs : Int), .string (mo r.num.natAbs), .int .u64 (lo ((qden r)) : Int), .string (mo ((qden r)))]) (by simp [results, Tryz.results31, go_sem, b2s0, b2s1, b2s2, b2s3, b2s4]) rfl ?_
  exact ⟨rfl, bset5 hB (by omega) _ _ _ _ _⟩
 obtain rfl := hr2 (by omega)
 have q1 : decide (0 < cv) = false := decide_eq_false h
 clear hr1 hr2
 go_wp2
 refine bodyPost_ret (v := .agg #[.bool (decide (r.num < 0)), .int .u64 (lo r.num.natAbs : Int), .string (mo r.num.natAbs), .int .u64 (lo ((qden r)) : Int), .string (mo ((qden r)))]) (by simp [results, Tryz.results31, go_sem, b2s0, b2s1, b2s2, b2s3, b2s4]) rfl ?_
 exact ⟨rfl, bset5 hB (by omega) _ _ _ _ _⟩
end Go.Proofs.YtecnjlcfoobepaaGreatDoor
