import Derived.Test.YtecnjlcfoobepaaGreatDoorDivWords
import Derived.Test.YtecnjlcfoobepaaGreatDoorNatC
namespace Go.Proofs.YtecnjlcfoobepaaGreatDoor
set_option maxRecDepth 100000
set_option maxHeartbeats 1000000
open Go.RowKit
set_option linter.unusedSimpArgs false
set_option linter.unusedVariables false
theorem natV_small (n : Nat) (h : n < 18446744073709551616) : natV n = .agg #[.int .u64 (n : Int), .string ⟨#[]⟩] := by
 unfold natV
 rw [lo_small n h, mo_small n h]
theorem bset4 {w w' : World} {g g' : Nat} (h : Below w.heap.size w w') (hg : w.heap.size <= g) (hg' : w.heap.size <= g') (x y z u : Value) : Below w.heap.size w ((((w'.setCell ⟨g, 0, none⟩ x).setCell ⟨g, 1, none⟩ y).setCell ⟨g', 0, none⟩ z).setCell ⟨g', 1, none⟩ u) := bset2 (bset2 h hg x y) hg' z u
theorem nat_div_less (a b : Nat) (w : World) (hb0 : b ≠ 0) (hbig : ¬ (a < 18446744073709551616 /\ b < 18446744073709551616)) (hlt : a < b) (ha : blen a <= 1099511627776) (hb : blen b <= 1099511627776) :
  Calls Tryz.prog 116 #[natV a, natV b] w (Ret (.tuple #[natV 0, natV a, .bool true]) w) := by
 have hbl := (blen_pos b).2 hb0
 have hbb : ¬ b < 18446744073709551616 := fun h => hbig ⟨by omega, h⟩
 obtain ⟨d3, d4⟩ := mo_full b hbb
 have hcm := cmpI_lt hlt
 rw [natV_zero]
 unfold natV
 have b0 := (((Blk.new w  52 #[.int .u64 (lo a : Int), .string (mo a)]).alloc (.cells #[.int .u64 (lo b : Int), .string (mo b)] 52)).alloc (.cells #[.int .u64 0, .string ⟨#[]⟩] 52)).alloc (.cells #[.int .u64 0, .string ⟨#[]⟩] 52); have b1 := ((Blk.new2 w (.cells #[.int .u64 (lo a : Int), .string (mo a)] 52) 52 #[.int .u64 (lo b : Int), .string (mo b)]).alloc (.cells #[.int .u64 0, .string ⟨#[]⟩] 52)).alloc (.cells #[.int .u64 0, .string ⟨#[]⟩] 52); have b2 := (Blk.new3 w (.cells #[.int .u64 (lo a : Int), .string (mo a)] 52) (.cells #[.int .u64 (lo b : Int), .string (mo b)] 52) 52 #[.int .u64 0, .string ⟨#[]⟩]).alloc (.cells #[.int .u64 0, .string ⟨#[]⟩] 52); have b3 := Blk.new4 w (.cells #[.int .u64 (lo a : Int), .string (mo a)] 52) (.cells #[.int .u64 (lo b : Int), .string (mo b)] 52) (.cells #[.int .u64 0, .string ⟨#[]⟩] 52) 52 #[.int .u64 0, .string ⟨#[]⟩]; have hB := balloc4 w (.cells #[.int .u64 (lo a : Int), .string (mo a)] 52) (.cells #[.int .u64 (lo b : Int), .string (mo b)] 52) (.cells #[.int .u64 0, .string ⟨#[]⟩] 52) (.cells #[.int .u64 0, .string ⟨#[]⟩] 52); have hZ := lh (show ((((w.alloc (.cells #[.int .u64 (lo a : Int), .string (mo a)] 52)).alloc (.cells #[.int .u64 (lo b : Int), .string (mo b)] 52)).alloc (.cells #[.int .u64 0, .string ⟨#[]⟩] 52)).alloc (.cells #[.int .u64 0, .string ⟨#[]⟩] 52)).heap.size = w.heap.size + 1 + 1 + 1 + 1 from by simp)
 have hz : ((blen b : Int) == 0) = false := by simp; omega
 have hz2 : (blen b == 0) = false := by simp; omega
 have hma : ((mo a).toList = [] /\ (mo a).toList.isEmpty = true) \/ (¬ (mo a).toList = [] /\ (mo a).toList.isEmpty = false) := by
  by_cases h : a < 18446744073709551616
  ·exact .inl (mo_empty a h)
  exact .inr (mo_full a h)
 have HCM := lh hcm
 clear hcm
 go_enter Tryz.func116, Tryz.ntmps116
 go_wp2_with fail
 generalize ((((w.alloc (.cells #[.int .u64 (lo a : Int), .string (mo a)] 52)).alloc (.cells #[.int .u64 (lo b : Int), .string (mo b)] 52)).alloc (.cells #[.int .u64 0, .string ⟨#[]⟩] 52)).alloc (.cells #[.int .u64 0, .string ⟨#[]⟩] 52)) = W at *
 refine (nat_bits b W (by omega)).mono ?_
 rintro e w1 ⟨rfl, hb1⟩
 have hB1 := bthen hB hb1
 (try clear b0q0 b0q1); have b0 := b0.below hb1 b0.lt; obtain ⟨b0q0, b0q1⟩ := b0.c2; (try clear b1q0 b1q1); have b1 := b1.below hb1 b1.lt; obtain ⟨b1q0, b1q1⟩ := b1.c2
 have b2 := b2.below hb1 b2.lt
 have b3 := b3.below hb1 b3.lt
 clear hb1
 rcases hma with ⟨hm1, hm2⟩ | ⟨hm1, hm2⟩
 all_goals
  go_wp2_with fail
  refine (nat_cmp a b w1 (by omega) (by omega)).mono ?_
  rintro e w2 ⟨rfl, hb2⟩
  rw [HCM.out]
  have hB2 := bthen hB1 hb2
  (try clear b0q0 b0q1); have b0 := b0.below hb2 b0.lt; obtain ⟨b0q0, b0q1⟩ := b0.c2; (try clear b1q0 b1q1); have b1 := b1.below hb2 b1.lt; obtain ⟨b1q0, b1q1⟩ := b1.c2
  (try clear b2q0 b2q1 b2f0 b2f1 b2s0 b2s1); have b2 := b2.below hb2 b2.lt; obtain ⟨b2q0, b2q1, b2f0, b2f1, b2s0, b2s1⟩ := b2.f2; (try clear b3q0 b3q1 b3f0 b3f1 b3s0 b3s1); have b3 := b3.below hb2 b3.lt; obtain ⟨b3q0, b3q1, b3f0, b3f1, b3s0, b3s1⟩ := b3.f2
  have n1 : ¬ w.heap.size = w.heap.size + 1 + 1 := by omega
  have n2 : ¬ w.heap.size = w.heap.size + 1 + 1 + 1 := by omega
  have n3 : ¬ w.heap.size + 1 + 1 = w.heap.size := by omega
  have n4 : ¬ w.heap.size + 1 + 1 + 1 = w.heap.size := by omega
  clear hb2
  go_wp2_with fail
  go_region
  go_wp2
  have c3 := (b3.far (p := ⟨w.heap.size + 1 + 1, 0, none⟩) (by simp) (.int .u64 0)).far (p := ⟨w.heap.size + 1 + 1, 1, none⟩) (by simp) (.string ⟨#[]⟩)
  obtain ⟨c3q0, c3q1, c3f0, c3f1, c3s0, c3s1⟩ := c3.f2
  refine bodyPost_ret (v := .tuple #[.agg #[.int .u64 0, .string ⟨#[]⟩], .agg #[.int .u64 (lo a : Int), .string (mo a)], .bool true]) (by simp [results, Tryz.results116, go_sem, b2s0, b2s1, c3s0, c3s1]) rfl ?_
  exact ⟨rfl, bset4 (bdrewN hB2 1) (by omega) (by omega) _ _ _ _⟩
theorem nat_div_small (a b : Nat) (w : World) (hb0 : b ≠ 0) (ha : a < 18446744073709551616) (hb : b < 18446744073709551616) :
  Calls Tryz.prog 116 #[natV a, natV b] w (Ret (.tuple #[natV (a / b), natV (a % b), .bool true]) w) := by
 have hbl := (blen_pos b).2 hb0
 have hbs := blen_small b hb
 obtain ⟨q, hq⟩ : ∃ q, a / b = q := ⟨_, rfl⟩
 obtain ⟨r, hr⟩ : ∃ r, a % b = r := ⟨_, rfl⟩
 have hqb : q < 18446744073709551616 := by rw [<- hq]; exact Nat.lt_of_le_of_lt (Nat.div_le_self _ _) ha
 have hrb : r < 18446744073709551616 := by rw [<- hr]; exact Nat.lt_of_le_of_lt (Nat.mod_le _ _) ha
 rw [hq, hr, natV_small q hqb, natV_small r hrb]
 have hq2 : (a : Int).tdiv (b : Int) = (q : Int) := by rw [<- hq]; rfl
 have hr2 : (a : Int).tmod (b : Int) = (r : Int) := by rw [<- hr]; rfl
 have hq3 : (a : Int) / (b : Int) = (q : Int) := by rw [<- hq]; rfl
 have hr3 : (a : Int) % (b : Int) = (r : Int) := by rw [<- hr]; rfl
 have k1 : IntKind.u64.wrap (q : Int) = (q : Int) := wrap_u64_of _ (by omega) (by omega)
 have k2 : IntKind.u64.wrap (r : Int) = (r : Int) := wrap_u64_of _ (by omega) (by omega)
 have hbne : ¬ (b : Int) = 0 := by omega
 have hbp : (0 : Int) < (b : Int) := by omega
 obtain ⟨hm1, hm2⟩ := mo_empty a ha
 obtain ⟨hm3, hm4⟩ := mo_empty b hb
 have hz : ((blen b : Int) == 0) = false := by simp; omega
 have hz2 : (blen b == 0) = false := by simp; omega
 have hla := lh (lo_small a ha)
 have hlb := lh (lo_small b hb)
 clear hq hr
 unfold natV
 have b0 := (((Blk.new w  52 #[.int .u64 (lo a : Int), .string (mo a)]).alloc (.cells #[.int .u64 (lo b : Int), .string (mo b)] 52)).alloc (.cells #[.int .u64 0, .string ⟨#[]⟩] 52)).alloc (.cells #[.int .u64 0, .string ⟨#[]⟩] 52); have b1 := ((Blk.new2 w (.cells #[.int .u64 (lo a : Int), .string (mo a)] 52) 52 #[.int .u64 (lo b : Int), .string (mo b)]).alloc (.cells #[.int .u64 0, .string ⟨#[]⟩] 52)).alloc (.cells #[.int .u64 0, .string ⟨#[]⟩] 52); have b2 := (Blk.new3 w (.cells #[.int .u64 (lo a : Int), .string (mo a)] 52) (.cells #[.int .u64 (lo b : Int), .string (mo b)] 52) 52 #[.int .u64 0, .string ⟨#[]⟩]).alloc (.cells #[.int .u64 0, .string ⟨#[]⟩] 52); have b3 := Blk.new4 w (.cells #[.int .u64 (lo a : Int), .string (mo a)] 52) (.cells #[.int .u64 (lo b : Int), .string (mo b)] 52) (.cells #[.int .u64 0, .string ⟨#[]⟩] 52) 52 #[.int .u64 0, .string ⟨#[]⟩]; have hB := balloc4 w (.cells #[.int .u64 (lo a : Int), .string (mo a)] 52) (.cells #[.int .u64 (lo b : Int), .string (mo b)] 52) (.cells #[.int .u64 0, .string ⟨#[]⟩] 52) (.cells #[.int .u64 0, .string ⟨#[]⟩] 52); have hZ := lh (show ((((w.alloc (.cells #[.int .u64 (lo a : Int), .string (mo a)] 52)).alloc (.cells #[.int .u64 (lo b : Int), .string (mo b)] 52)).alloc (.cells #[.int .u64 0, .string ⟨#[]⟩] 52)).alloc (.cells #[.int .u64 0, .string ⟨#[]⟩] 52)).heap.size = w.heap.size + 1 + 1 + 1 + 1 from by simp)
 go_enter Tryz.func116, Tryz.ntmps116
 go_wp2_with fail
 generalize ((((w.alloc (.cells #[.int .u64 (lo a : Int), .string (mo a)] 52)).alloc (.cells #[.int .u64 (lo b : Int), .string (mo b)] 52)).alloc (.cells #[.int .u64 0, .string ⟨#[]⟩] 52)).alloc (.cells #[.int .u64 0, .string ⟨#[]⟩] 52)) = W at *
 refine (nat_bits b W (by omega)).mono ?_
 rintro e w1 ⟨rfl, hb1⟩
 have hB1 := bthen hB hb1
 (try clear b0q0 b0q1); have b0 := b0.below hb1 b0.lt; obtain ⟨b0q0, b0q1⟩ := b0.c2; (try clear b1q0 b1q1); have b1 := b1.below hb1 b1.lt; obtain ⟨b1q0, b1q1⟩ := b1.c2
 (try clear b2q0 b2q1 b2f0 b2f1 b2s0 b2s1); have b2 := b2.below hb1 b2.lt; obtain ⟨b2q0, b2q1, b2f0, b2f1, b2s0, b2s1⟩ := b2.f2; (try clear b3q0 b3q1 b3f0 b3f1 b3s0 b3s1); have b3 := b3.below hb1 b3.lt; obtain ⟨b3q0, b3q1, b3f0, b3f1, b3s0, b3s1⟩ := b3.f2
 rw [hla.out] at b0q0
 rw [hlb.out] at b1q0
 have n1 : ¬ w.heap.size = w.heap.size + 1 + 1 := by omega
 have n2 : ¬ w.heap.size = w.heap.size + 1 + 1 + 1 := by omega
 have n3 : ¬ w.heap.size + 1 + 1 = w.heap.size := by omega
 have n4 : ¬ w.heap.size + 1 + 1 + 1 = w.heap.size := by omega
 clear hb1
 go_wp2_with fail
 go_region
 go_wp2
 have c3 := (b3.far (p := ⟨w.heap.size + 1 + 1, 0, none⟩) (by simp) (.int .u64 (q : Int))).far (p := ⟨w.heap.size + 1 + 1, 1, none⟩) (by simp) (.string ⟨#[]⟩)
 obtain ⟨c3q0, c3q1, c3f0, c3f1, c3s0, c3s1⟩ := c3.f2
 refine bodyPost_ret (v := .tuple #[.agg #[.int .u64 (q : Int), .string ⟨#[]⟩], .agg #[.int .u64 (r : Int), .string ⟨#[]⟩], .bool true]) (by simp [results, Tryz.results116, go_sem, b2s0, b2s1, c3s0, c3s1]) rfl ?_
 exact ⟨rfl, bset4 (bdrewN hB1 1) (by omega) (by omega) _ _ _ _⟩
theorem nat_div_word (a b : Nat) (w : World) (hb0 : b ≠ 0) (hbig : ¬ a < 18446744073709551616) (hb : b < 18446744073709551616) (ha : blen a <= 1099511627776) :
  Calls Tryz.prog 116 #[natV a, natV b] w (Ret (.tuple #[natV (a / b), natV (a % b), .bool true]) w) := by
 have hbl := (blen_pos b).2 hb0
 have hbs := blen_small b hb
 have hwa := words_len_b a ha
 have hc0 : ¬ cmpI a b < 0 := by unfold cmpI; rw [if_neg (by omega)]; split <;> omega
 obtain ⟨cv, hcv⟩ : ∃ cv, cmpI a b = cv := ⟨_, rfl⟩
 rw [hcv] at hc0
 have HCV := lh hcv
 have hrb : a % b < 18446744073709551616 := Nat.lt_trans (Nat.mod_lt _ (by omega)) hb
 rw [natV_small (a % b) hrb]
 obtain ⟨hm1, hm2⟩ := mo_full a hbig
 obtain ⟨hm3, hm4⟩ := mo_empty b hb
 have hz : ((blen b : Int) == 0) = false := by simp; omega
 have hz2 : (blen b == 0) = false := by simp; omega
 have hlb := lh (lo_small b hb)
 clear hcv
 unfold natV
 have b0 := (((Blk.new w  52 #[.int .u64 (lo a : Int), .string (mo a)]).alloc (.cells #[.int .u64 (lo b : Int), .string (mo b)] 52)).alloc (.cells #[.int .u64 0, .string ⟨#[]⟩] 52)).alloc (.cells #[.int .u64 0, .string ⟨#[]⟩] 52); have b1 := ((Blk.new2 w (.cells #[.int .u64 (lo a : Int), .string (mo a)] 52) 52 #[.int .u64 (lo b : Int), .string (mo b)]).alloc (.cells #[.int .u64 0, .string ⟨#[]⟩] 52)).alloc (.cells #[.int .u64 0, .string ⟨#[]⟩] 52); have b2 := (Blk.new3 w (.cells #[.int .u64 (lo a : Int), .string (mo a)] 52) (.cells #[.int .u64 (lo b : Int), .string (mo b)] 52) 52 #[.int .u64 0, .string ⟨#[]⟩]).alloc (.cells #[.int .u64 0, .string ⟨#[]⟩] 52); have b3 := Blk.new4 w (.cells #[.int .u64 (lo a : Int), .string (mo a)] 52) (.cells #[.int .u64 (lo b : Int), .string (mo b)] 52) (.cells #[.int .u64 0, .string ⟨#[]⟩] 52) 52 #[.int .u64 0, .string ⟨#[]⟩]; have hB := balloc4 w (.cells #[.int .u64 (lo a : Int), .string (mo a)] 52) (.cells #[.int .u64 (lo b : Int), .string (mo b)] 52) (.cells #[.int .u64 0, .string ⟨#[]⟩] 52) (.cells #[.int .u64 0, .string ⟨#[]⟩] 52); have hZ := lh (show ((((w.alloc (.cells #[.int .u64 (lo a : Int), .string (mo a)] 52)).alloc (.cells #[.int .u64 (lo b : Int), .string (mo b)] 52)).alloc (.cells #[.int .u64 0, .string ⟨#[]⟩] 52)).alloc (.cells #[.int .u64 0, .string ⟨#[]⟩] 52)).heap.size = w.heap.size + 1 + 1 + 1 + 1 from by simp)
 go_enter Tryz.func116, Tryz.ntmps116
 go_wp2_with fail
 generalize ((((w.alloc (.cells #[.int .u64 (lo a : Int), .string (mo a)] 52)).alloc (.cells #[.int .u64 (lo b : Int), .string (mo b)] 52)).alloc (.cells #[.int .u64 0, .string ⟨#[]⟩] 52)).alloc (.cells #[.int .u64 0, .string ⟨#[]⟩] 52)) = W at *
 refine (nat_bits b W (by omega)).mono ?_
 rintro e w1 ⟨rfl, hb1⟩
 have hB1 := bthen hB hb1
 (try clear b0q0 b0q1); have b0 := b0.below hb1 b0.lt; obtain ⟨b0q0, b0q1⟩ := b0.c2; (try clear b1q0 b1q1); have b1 := b1.below hb1 b1.lt; obtain ⟨b1q0, b1q1⟩ := b1.c2
 have b2 := b2.below hb1 b2.lt
 have b3 := b3.below hb1 b3.lt
 clear hb1
 go_wp2_with fail
 refine (nat_cmp a b w1 (by omega) (by omega)).mono ?_
 rintro e w2 ⟨rfl, hb2⟩
 rw [HCV.out]
 have hB2 := bthen hB1 hb2
 (try clear b0q0 b0q1); have b0 := b0.below hb2 b0.lt; obtain ⟨b0q0, b0q1⟩ := b0.c2; (try clear b1q0 b1q1); have b1 := b1.below hb2 b1.lt; obtain ⟨b1q0, b1q1⟩ := b1.c2
 have b2 := b2.below hb2 b2.lt
 have b3 := b3.below hb2 b3.lt
 rw [hlb.out] at b1q0
 clear hb2
 go_upto_region 8 with fail
 go_cut [7, 8] (fun v7 v8 wc => ∃ (A : Option Addr) (nq cq : Nat) (q : List Nat), v7 = .slice A nq cq /\ v8 = .int .u64 ((a % b : Nat) : Int) /\ Reads wc wc.heap.size 1 A nq (q.map u64v) /\ Dig B64 q /\ dv B64 q = a / b /\ nq <= cq /\ nq <= 17179869185 /\ Below w2.heap.size w2 wc)
 case first =>
  have c0 := b0.drew
  have c1 := b1.drew
  have b0lt := b0.lt
  have b1lt := b1.lt
  have hpos := words_len_pos a (by omega)
  have hdA := words_dig a
  have HVA := lh (dv_words a)
  go_region_held3 (fun w' => w'.cell? ⟨w.heap.size, 0, none⟩ = some (.int .u64 (lo a : Int)) /\ w'.cell? ⟨w.heap.size, 1, none⟩ = some (.string (mo a)) /\ w'.cell? ⟨w.heap.size + 1, 0, none⟩ = some (.int .u64 (b : Int))) (go_keep) (first | (go_at_call 122; refine (nat_words a _ (by omega) (by omega)).mono ?_; rintro e wa ⟨va, rfl, hna⟩; have hba := hna.2.1; obtain ⟨Aa, ca, rfl, hca, _⟩ := hna.1.form; (try clear c0q0 c0q1); have c0 := c0.below hba c0.lt; obtain ⟨c0q0, c0q1⟩ := c0.c2; (try clear c1q0 c1q1); have c1 := c1.below hba c1.lt; obtain ⟨c1q0, c1q1⟩ := c1.c2; rw [hlb.out] at c1q0; obtain ⟨ga, rfl⟩ := hna.1.addr hpos) | (go_at_call 142; refine (nat_divWord ga ca b (words a) _ hna.1 hdA hwa (by omega) hb).mono ?_; rintro e wd ⟨nq, cq, q, rfl, hrq, hdq, hvq, hnq, hnq2, hxd⟩; have hbd : Below w2.heap.size wa wd := Exc.below hxd hba.size (hna.2.2 ga rfl); have d0 := c0.below hbd b0lt; have d1 := c1.below hbd b1lt; obtain ⟨d0q0, d0q1⟩ := d0.c2; obtain ⟨d1q0, d1q1⟩ := d1.c2; rw [hlb.out] at d1q0))
  all_goals
   go_wp2_with fail
   go_meet
   have hva : dv B64 (words a) = a := dv_words a
   exact ⟨_, nq, cq, q, rfl, by rw [hva]; rfl, hrq, hdq, by rw [hvq, hva], hnq, hnq2, (bdrew hba).trans hbd⟩
 case rest =>
  obtain ⟨A, nq, cq, q, rfl, rfl, hrq, hdq, hvq, hnq, hnq2, hbc⟩ := hcut
  have hB3 := bthen hB2 hbc
  have b2 := b2.below hbc b2.lt
  have b3 := b3.below hbc b3.lt
  have HVQ := lh hvq
  clear hvq b0q0 b0q1 b1q0 b1q1
  generalize a % b = r at *
  go_wp2_with fail
  refine (nat_fromWords A nq cq _ q wc hrq zd hdq (by omega) hnq).mono ?_
  rintro e w4 ⟨rfl, hb4⟩
  have e5 : dv 18446744073709551616 q = a / b := HVQ.out
  rw [e5]
  have hB4 := bthen hB3 hb4
  (try clear b2q0 b2q1 b2f0 b2f1 b2s0 b2s1); have b2 := b2.below hb4 b2.lt; obtain ⟨b2q0, b2q1, b2f0, b2f1, b2s0, b2s1⟩ := b2.f2; (try clear b3q0 b3q1 b3f0 b3f1 b3s0 b3s1); have b3 := b3.below hb4 b3.lt; obtain ⟨b3q0, b3q1, b3f0, b3f1, b3s0, b3s1⟩ := b3.f2
  clear e5
  unfold natV
  generalize a / b = Q at *
  go_wp2
  have c3 := (b3.far (p := ⟨w.heap.size + 1 + 1, 0, none⟩) (by simp) (.int .u64 (lo Q : Int))).far (p := ⟨w.heap.size + 1 + 1, 1, none⟩) (by simp) (.string (mo Q))
  obtain ⟨c3q0, c3q1, c3f0, c3f1, c3s0, c3s1⟩ := c3.f2
  refine bodyPost_ret (v := .tuple #[.agg #[.int .u64 (lo Q : Int), .string (mo Q)], .agg #[.int .u64 (r : Int), .string ⟨#[]⟩], .bool true]) (by simp [results, Tryz.results116, go_sem, b2s0, b2s1, c3s0, c3s1]) rfl ?_
  exact ⟨rfl, bset4 hB4 (by omega) (by omega) _ _ _ _⟩
theorem nat_div_words (a b : Nat) (w : World) (hbig : ¬ b < 18446744073709551616) (hle : b <= a) (ha : blen a <= 1099511627776) (hb : blen b <= 1099511627776) :
  Calls Tryz.prog 116 #[natV a, natV b] w (Ret (.tuple #[natV (a / b), natV (a % b), .bool true]) w) := by
 have hbl := (blen_pos b).2 (by omega)
 have hwa := words_len_b a ha
 have hwb := words_len_b b hb
 have hc0 : ¬ cmpI a b < 0 := by unfold cmpI; rw [if_neg (by omega)]; split <;> omega
 obtain ⟨cv, hcv⟩ : ∃ cv, cmpI a b = cv := ⟨_, rfl⟩
 rw [hcv] at hc0
 have HCV := lh hcv
 obtain ⟨hm1, hm2⟩ := mo_full a (by omega)
 obtain ⟨hm3, hm4⟩ := mo_full b hbig
 have hz : ((blen b : Int) == 0) = false := by simp; omega
 have hz2 : (blen b == 0) = false := by simp; omega
 have hlen : (words b).length <= (words a).length := by
  rcases Nat.lt_or_ge (words a).length (words b).length with h | h
  ·have := words_longer h
   omega
  exact h
 have hn2 := words_big b hbig
 obtain ⟨ht1, ht2, ht3⟩ := words_top b (by omega)
 have htop : (words b)[(words b).length - 1]? = some (top b) := by
  have hl := congrArg List.length ht1
  rw [List.length_append, List.length_singleton] at hl
  rw [ht1, List.getElem?_append_right (by simp)]
  simp
 have hdA : Dig B64 (words a) := words_dig a
 have hdB : Dig B64 (words b) := words_dig b
 have HT := lh htop
 clear hcv ht1 ht3 htop
 unfold natV
 have b0 := (((Blk.new w  52 #[.int .u64 (lo a : Int), .string (mo a)]).alloc (.cells #[.int .u64 (lo b : Int), .string (mo b)] 52)).alloc (.cells #[.int .u64 0, .string ⟨#[]⟩] 52)).alloc (.cells #[.int .u64 0, .string ⟨#[]⟩] 52); have b1 := ((Blk.new2 w (.cells #[.int .u64 (lo a : Int), .string (mo a)] 52) 52 #[.int .u64 (lo b : Int), .string (mo b)]).alloc (.cells #[.int .u64 0, .string ⟨#[]⟩] 52)).alloc (.cells #[.int .u64 0, .string ⟨#[]⟩] 52); have b2 := (Blk.new3 w (.cells #[.int .u64 (lo a : Int), .string (mo a)] 52) (.cells #[.int .u64 (lo b : Int), .string (mo b)] 52) 52 #[.int .u64 0, .string ⟨#[]⟩]).alloc (.cells #[.int .u64 0, .string ⟨#[]⟩] 52); have b3 := Blk.new4 w (.cells #[.int .u64 (lo a : Int), .string (mo a)] 52) (.cells #[.int .u64 (lo b : Int), .string (mo b)] 52) (.cells #[.int .u64 0, .string ⟨#[]⟩] 52) 52 #[.int .u64 0, .string ⟨#[]⟩]; have hB := balloc4 w (.cells #[.int .u64 (lo a : Int), .string (mo a)] 52) (.cells #[.int .u64 (lo b : Int), .string (mo b)] 52) (.cells #[.int .u64 0, .string ⟨#[]⟩] 52) (.cells #[.int .u64 0, .string ⟨#[]⟩] 52); have hZ := lh (show ((((w.alloc (.cells #[.int .u64 (lo a : Int), .string (mo a)] 52)).alloc (.cells #[.int .u64 (lo b : Int), .string (mo b)] 52)).alloc (.cells #[.int .u64 0, .string ⟨#[]⟩] 52)).alloc (.cells #[.int .u64 0, .string ⟨#[]⟩] 52)).heap.size = w.heap.size + 1 + 1 + 1 + 1 from by simp)
 go_enter Tryz.func116, Tryz.ntmps116
 go_wp2_with fail
 generalize ((((w.alloc (.cells #[.int .u64 (lo a : Int), .string (mo a)] 52)).alloc (.cells #[.int .u64 (lo b : Int), .string (mo b)] 52)).alloc (.cells #[.int .u64 0, .string ⟨#[]⟩] 52)).alloc (.cells #[.int .u64 0, .string ⟨#[]⟩] 52)) = W at *
 refine (nat_bits b W (by omega)).mono ?_
 rintro e w1 ⟨rfl, hb1⟩
 have hB1 := bthen hB hb1
 (try clear b0q0 b0q1); have b0 := b0.below hb1 b0.lt; obtain ⟨b0q0, b0q1⟩ := b0.c2; (try clear b1q0 b1q1); have b1 := b1.below hb1 b1.lt; obtain ⟨b1q0, b1q1⟩ := b1.c2
 have b2 := b2.below hb1 b2.lt
 have b3 := b3.below hb1 b3.lt
 clear hb1
 go_wp2_with fail
 refine (nat_cmp a b w1 (by omega) (by omega)).mono ?_
 rintro e w2 ⟨rfl, hb2⟩
 rw [HCV.out]
 have hB2 := bthen hB1 hb2
 (try clear b0q0 b0q1); have b0 := b0.below hb2 b0.lt; obtain ⟨b0q0, b0q1⟩ := b0.c2; (try clear b1q0 b1q1); have b1 := b1.below hb2 b1.lt; obtain ⟨b1q0, b1q1⟩ := b1.c2
 have b2 := b2.below hb2 b2.lt
 have b3 := b3.below hb2 b3.lt
 clear hb2
 go_upto_region 10 with fail
 go_cut [9, 10] (fun v9 v10 wc => DvPost w2 a b (.returned (.tuple #[v9, v10])) wc)
 case first =>
  have c0 := b0.drew
  have c1 := b1.drew
  go_region_held3 (fun w' => w'.cell? ⟨w.heap.size, 0, none⟩ = some (.int .u64 (lo a : Int)) /\ w'.cell? ⟨w.heap.size, 1, none⟩ = some (.string (mo a)) /\ w'.cell? ⟨w.heap.size + 1, 0, none⟩ = some (.int .u64 (lo b : Int)) /\ w'.cell? ⟨w.heap.size + 1, 1, none⟩ = some (.string (mo b))) (go_keep) (first | (go_at_call_of 122 (Value.agg #[.int .u64 (lo a : Int), .string (mo a)]); refine (nat_words a _ (by omega) (by omega)).mono ?_; rintro e wa ⟨va, rfl, hna⟩; have hba := hna.2.1; obtain ⟨Aa, ca, rfl, hca, _⟩ := hna.1.form; (try clear c0q0 c0q1); have c0 := c0.below hba c0.lt; obtain ⟨c0q0, c0q1⟩ := c0.c2; (try clear c1q0 c1q1); have c1 := c1.below hba c1.lt; obtain ⟨c1q0, c1q1⟩ := c1.c2) | (go_at_call_of 122 (Value.agg #[.int .u64 (lo b : Int), .string (mo b)]); refine (nat_words b _ (by omega) (by omega)).mono ?_; rintro e wb ⟨vb, rfl, hnb⟩; have hbb := hnb.2.1; obtain ⟨Ab, cb, rfl, hcb, _⟩ := hnb.1.form; (try clear c0q0 c0q1); have c0 := c0.below hbb c0.lt; obtain ⟨c0q0, c0q1⟩ := c0.c2; (try clear c1q0 c1q1); have c1 := c1.below hbb c1.lt; obtain ⟨c1q0, c1q1⟩ := c1.c2) | (go_at_call 143; (first | have hT := Two.ab hna hnb | have hT := Two.ba hnb hna); refine (nat_divWords _ _ _ _ _ _ _ _ (words a) (words b) _ (Own.reads hT.1) (Own.reads hT.2.1) zd zd hdA hdB (by omega) hlen hn2 (top b) HT.out (by omega)).mono ?_; rintro e wm ⟨gq, m, lq, A, nr, cr, lr, rfl, hrq, hdq, hvq, hrr, hdr, hvr, hm, hnr, hnc, hbm⟩; (try clear c0q0 c0q1); have c0 := c0.below hbm c0.lt; obtain ⟨c0q0, c0q1⟩ := c0.c2; (try clear c1q0 c1q1); have c1 := c1.below hbm c1.lt; obtain ⟨c1q0, c1q1⟩ := c1.c2))
  all_goals
   go_wp2_with fail
   go_meet
   have hva : dv B64 (words a) = a := dv_words a
   have hvb : dv B64 (words b) = b := dv_words b
   rw [hva, hvb] at hvq hvr
   exact ⟨gq, m, lq, A, nr, cr, lr, rfl, hrq, hdq, hvq, hrr, hdr, hvr, hm, hnr, hnc, bthen hT.2.2.1 hbm⟩
 case rest =>
  obtain ⟨gq, m, lq, A, nr, cr, lr, he, hrq, hdq, hvq, hrr, hdr, hvr, hm, hnr, hnc, hbc⟩ := hcut
  injection he with he
  injection he with he
  have hu9 : u9 = .slice (some ⟨gq, 0, none⟩) m m := by
   have := congrArg (fun x : Array Value => x[0]?) he
   simpa using this
  have hu10 : u10 = .slice A nr cr := by
   have := congrArg (fun x : Array Value => x[1]?) he
   simpa using this
  subst hu9
  subst hu10
  have hB3 := bthen hB2 hbc
  have b2 := b2.below hbc b2.lt
  have b3 := b3.below hbc b3.lt
  have HVQ := lh (And.intro hvq hvr)
  clear hvq hvr b0q0 b0q1 b1q0 b1q1 he
  go_wp2_with fail
  refine (nat_fromWords _ m m _ lq wc hrq zd hdq (by omega) zd).mono ?_
  rintro e w4 ⟨rfl, hb4⟩
  have e5 : dv 18446744073709551616 lq = a / b := HVQ.out.1
  rw [e5]
  have hB4 := bthen hB3 hb4
  have b2 := b2.below hb4 b2.lt
  have b3 := b3.below hb4 b3.lt
  have hrr4 := Reads.below hrr hb4
  have hz4 := hb4.size
  clear e5 hb4
  go_wp2_with fail
  refine (nat_fromWords A nr cr _ lr w4 hrr4 hz4 hdr (by omega) hnc).mono ?_
  rintro e w5 ⟨rfl, hb5⟩
  have e6 : dv 18446744073709551616 lr = a % b := HVQ.out.2
  rw [e6]
  have hB5 := bthen hB4 hb5
  (try clear b2q0 b2q1 b2f0 b2f1 b2s0 b2s1); have b2 := b2.below hb5 b2.lt; obtain ⟨b2q0, b2q1, b2f0, b2f1, b2s0, b2s1⟩ := b2.f2; (try clear b3q0 b3q1 b3f0 b3f1 b3s0 b3s1); have b3 := b3.below hb5 b3.lt; obtain ⟨b3q0, b3q1, b3f0, b3f1, b3s0, b3s1⟩ := b3.f2
  clear e6
  unfold natV
  generalize a / b = Q at *
  generalize a % b = R at *
  go_wp2
  have c3 := (b3.far (p := ⟨w.heap.size + 1 + 1, 0, none⟩) (by simp) (.int .u64 (lo Q : Int))).far (p := ⟨w.heap.size + 1 + 1, 1, none⟩) (by simp) (.string (mo Q))
  obtain ⟨c3q0, c3q1, c3f0, c3f1, c3s0, c3s1⟩ := c3.f2
  refine bodyPost_ret (v := .tuple #[.agg #[.int .u64 (lo Q : Int), .string (mo Q)], .agg #[.int .u64 (lo R : Int), .string (mo R)], .bool true]) (by simp [results, Tryz.results116, go_sem, b2s0, b2s1, c3s0, c3s1]) rfl ?_
  exact ⟨rfl, bset4 hB5 (by omega) (by omega) _ _ _ _⟩
theorem nat_div (a b : Nat) (w : World) (hb0 : b ≠ 0) (ha : blen a <= 1099511627776) (hb : blen b <= 1099511627776) :
  Calls Tryz.prog 116 #[natV a, natV b] w (Ret (.tuple #[natV (a / b), natV (a % b), .bool true]) w) := by
 by_cases h1 : a < 18446744073709551616 /\ b < 18446744073709551616
 ·exact nat_div_small a b w hb0 h1.1 h1.2
 by_cases h2 : a < b
 ·have := nat_div_less a b w hb0 h1 h2 ha hb
  rw [Nat.div_eq_of_lt h2, Nat.mod_eq_of_lt h2]
  exact this
 by_cases h3 : b < 18446744073709551616
 ·exact nat_div_word a b w hb0 (fun h => h1 ⟨h, h3⟩) h3 ha
 exact nat_div_words a b w h3 (by omega) ha hb
end Go.Proofs.YtecnjlcfoobepaaGreatDoor
