import Derived.Test.YtecnjlcfoobepaaGreatDoorNatB
import Derived.Test.YtecnjlcfoobepaaGreatDoorNatC
namespace Go.Proofs.YtecnjlcfoobepaaGreatDoor
set_option maxRecDepth 100000
set_option maxHeartbeats 400000
open Go.RowKit
set_option linter.unusedSimpArgs false
set_option linter.unusedVariables false
theorem signed_mul (x y : Int) : signed (decide (x < 0) != decide (y < 0)) (x.natAbs * y.natAbs) = x * y := by
 unfold signed
 by_cases hx : x < 0
 ·have e1 : (x.natAbs : Int) = -x := by omega
  by_cases hy : y < 0
  ·have e2 : (y.natAbs : Int) = -y := by omega
   rw [decide_eq_true hx, decide_eq_true hy, if_neg (by decide), Int.natCast_mul, e1, e2, Int.neg_mul_neg]
  have e2 : (y.natAbs : Int) = y := by omega
  rw [decide_eq_true hx, decide_eq_false hy, if_pos (by decide), Int.natCast_mul, e1, e2, Int.neg_mul, Int.neg_neg]
 have e1 : (x.natAbs : Int) = x := by omega
 by_cases hy : y < 0
 ·have e2 : (y.natAbs : Int) = -y := by omega
  rw [decide_eq_false hx, decide_eq_true hy, if_pos (by decide), Int.natCast_mul, e1, e2, Int.mul_neg, Int.neg_neg]
 have e2 : (y.natAbs : Int) = y := by omega
 rw [decide_eq_false hx, decide_eq_false hy, if_neg (by decide), Int.natCast_mul, e1, e2]
theorem signed_neg (x : Int) : signed (!decide (x < 0)) x.natAbs = -x := by
 unfold signed
 by_cases hx : x < 0
 ·simp [hx]; omega
 simp [hx]; omega
theorem whole_neg (z : Int) (w : World) (hz : blen z.natAbs <= 1099511627776) : Calls Tryz.prog 108 #[intV z] w (Ret (intV (-z)) w) := by
 rw [<- signed_neg z]
 have hfr := fun w => whole_from (!decide (z < 0)) z.natAbs w (by omega)
 rw [intV_signed] at hfr
 rw [intV_signed]
 unfold natV at hfr
 unfold intV
 have b0 := (Blk.new w  54 #[.bool (decide (z < 0)), .int .u64 (lo z.natAbs : Int), .string (mo z.natAbs)]).alloc (.cells #[.bool false, .int .u64 0, .string ⟨#[]⟩] 54); have b1 := Blk.new2 w (.cells #[.bool (decide (z < 0)), .int .u64 (lo z.natAbs : Int), .string (mo z.natAbs)] 54) 54 #[.bool false, .int .u64 0, .string ⟨#[]⟩]; have hB := balloc2 w (.cells #[.bool (decide (z < 0)), .int .u64 (lo z.natAbs : Int), .string (mo z.natAbs)] 54) (.cells #[.bool false, .int .u64 0, .string ⟨#[]⟩] 54); have hZ := lh (show ((w.alloc (.cells #[.bool (decide (z < 0)), .int .u64 (lo z.natAbs : Int), .string (mo z.natAbs)] 54)).alloc (.cells #[.bool false, .int .u64 0, .string ⟨#[]⟩] 54)).heap.size = w.heap.size + 1 + 1 from by simp)
 have HFR := lh hfr
 clear hfr
 obtain ⟨ng, hng⟩ : ∃ ng, decide (z < 0) = ng := ⟨_, rfl⟩
 rw [hng] at b0 b1 hB hZ HFR ⊢
 clear hng
 obtain ⟨q, hq⟩ : ∃ q, ((!ng) && decide (0 < z.natAbs)) = q := ⟨_, rfl⟩
 rw [hq] at HFR ⊢
 clear hq
 go_enter Tryz.func108, Tryz.ntmps108
 go_wp2_with fail
 generalize (w.alloc (.cells #[.bool ng, .int .u64 (lo z.natAbs : Int), .string (mo z.natAbs)] 54)).alloc (.cells #[.bool false, .int .u64 0, .string ⟨#[]⟩] 54) = W at *
 refine (HFR.out W).mono ?_
 rintro e w1 ⟨rfl, hb1⟩
 have hB1 := bthen hB hb1
 (try clear b1q0 b1q1 b1q2 b1f0 b1f1 b1f2 b1s0 b1s1 b1s2); have b1 := b1.below hb1 b1.lt; obtain ⟨b1q0, b1q1, b1q2, b1f0, b1f1, b1f2, b1s0, b1s1, b1s2⟩ := b1.f3
 go_wp2
 refine bodyPost_ret (v := .agg #[.bool q, .int .u64 (lo z.natAbs : Int), .string (mo z.natAbs)]) (by simp [results, Tryz.results108, go_sem, b1s0, b1s1, b1s2]) rfl ?_
 exact ⟨rfl, bset3 hB1 (by omega) _ _ _⟩
theorem whole_mul (x y : Int) (w : World) (hx : blen x.natAbs <= 1099511627776) (hy : blen y.natAbs <= 1099511627776) : Calls Tryz.prog 78 #[intV x, intV y] w (Ret (intV (x * y)) w) := by
 rw [<- signed_mul x y]
 have hbm := blen_mul x.natAbs y.natAbs
 have hfr := fun w => whole_from (decide (x < 0) != decide (y < 0)) (x.natAbs * y.natAbs) w (by omega)
 rw [intV_signed] at hfr
 rw [intV_signed]
 have hmu := fun w => nat_mul x.natAbs y.natAbs w hx hy
 unfold natV at hfr hmu
 unfold intV
 have b0 := ((Blk.new w  54 #[.bool (decide (x < 0)), .int .u64 (lo x.natAbs : Int), .string (mo x.natAbs)]).alloc (.cells #[.bool (decide (y < 0)), .int .u64 (lo y.natAbs : Int), .string (mo y.natAbs)] 54)).alloc (.cells #[.bool false, .int .u64 0, .string ⟨#[]⟩] 54); have b1 := (Blk.new2 w (.cells #[.bool (decide (x < 0)), .int .u64 (lo x.natAbs : Int), .string (mo x.natAbs)] 54) 54 #[.bool (decide (y < 0)), .int .u64 (lo y.natAbs : Int), .string (mo y.natAbs)]).alloc (.cells #[.bool false, .int .u64 0, .string ⟨#[]⟩] 54); have b2 := Blk.new3 w (.cells #[.bool (decide (x < 0)), .int .u64 (lo x.natAbs : Int), .string (mo x.natAbs)] 54) (.cells #[.bool (decide (y < 0)), .int .u64 (lo y.natAbs : Int), .string (mo y.natAbs)] 54) 54 #[.bool false, .int .u64 0, .string ⟨#[]⟩]; have hB := balloc3 w (.cells #[.bool (decide (x < 0)), .int .u64 (lo x.natAbs : Int), .string (mo x.natAbs)] 54) (.cells #[.bool (decide (y < 0)), .int .u64 (lo y.natAbs : Int), .string (mo y.natAbs)] 54) (.cells #[.bool false, .int .u64 0, .string ⟨#[]⟩] 54); have hZ := lh (show (((w.alloc (.cells #[.bool (decide (x < 0)), .int .u64 (lo x.natAbs : Int), .string (mo x.natAbs)] 54)).alloc (.cells #[.bool (decide (y < 0)), .int .u64 (lo y.natAbs : Int), .string (mo y.natAbs)] 54)).alloc (.cells #[.bool false, .int .u64 0, .string ⟨#[]⟩] 54)).heap.size = w.heap.size + 1 + 1 + 1 from by simp)
 have HFR := lh hfr
 have HMU := lh hmu
 clear hfr hmu hbm
 generalize x.natAbs * y.natAbs = N at *
 obtain ⟨nx, hnx⟩ : ∃ nx, decide (x < 0) = nx := ⟨_, rfl⟩
 obtain ⟨ny, hny⟩ : ∃ ny, decide (y < 0) = ny := ⟨_, rfl⟩
 rw [hnx, hny] at HFR
 rw [hnx, hny] at b0 b1 b2 hB hZ
 rw [hnx, hny]
 clear hnx hny
 obtain ⟨q, hq⟩ : ∃ q, ((nx != ny) && decide (0 < N)) = q := ⟨_, rfl⟩
 rw [hq] at HFR ⊢
 clear hq
 go_enter Tryz.func78, Tryz.ntmps78
 go_wp2_with fail
 generalize ((w.alloc (.cells #[.bool nx, .int .u64 (lo x.natAbs : Int), .string (mo x.natAbs)] 54)).alloc (.cells #[.bool ny, .int .u64 (lo y.natAbs : Int), .string (mo y.natAbs)] 54)).alloc (.cells #[.bool false, .int .u64 0, .string ⟨#[]⟩] 54) = W at *
 obtain ⟨b0q0, b0q1, b0q2⟩ := b0.c3; obtain ⟨b1q0, b1q1, b1q2⟩ := b1.c3
 have c0 := b0.drew
 have c1 := b1.drew
 have c2 := b2.drew
 have n1 : ¬ w.heap.size = w.heap.size + 1 + 1 := by omega
 have n2 : ¬ w.heap.size + 1 + 1 = w.heap.size := by omega
 go_region_held3 (fun w' => w'.cell? ⟨w.heap.size, 0, none⟩ = some (.bool nx) /\ w'.cell? ⟨w.heap.size, 1, none⟩ = some (.int .u64 (lo x.natAbs : Int)) /\ w'.cell? ⟨w.heap.size, 2, none⟩ = some (.string (mo x.natAbs)) /\ w'.cell? ⟨w.heap.size + 1, 0, none⟩ = some (.bool ny) /\ w'.cell? ⟨w.heap.size + 1, 1, none⟩ = some (.int .u64 (lo y.natAbs : Int)) /\ w'.cell? ⟨w.heap.size + 1, 2, none⟩ = some (.string (mo y.natAbs))) (go_keep) (first | (go_at_call 83; refine (HMU.out _).mono ?_; rintro e wa ⟨rfl, hba⟩; (try clear c0q0 c0q1 c0q2); have c0 := c0.below hba c0.lt; obtain ⟨c0q0, c0q1, c0q2⟩ := c0.c3; (try clear c1q0 c1q1 c1q2); have c1 := c1.below hba c1.lt; obtain ⟨c1q0, c1q1, c1q2⟩ := c1.c3; (try clear c2q0 c2q1 c2q2); have c2 := c2.below hba c2.lt; obtain ⟨c2q0, c2q1, c2q2⟩ := c2.c3) | (go_at_call 74; refine (HFR.out _).mono ?_; rintro e wf ⟨rfl, hbf⟩; (try clear c0q0 c0q1 c0q2 c0f0 c0f1 c0f2 c0s0 c0s1 c0s2); have c0 := c0.below hbf c0.lt; obtain ⟨c0q0, c0q1, c0q2, c0f0, c0f1, c0f2, c0s0, c0s1, c0s2⟩ := c0.f3; (try clear c1q0 c1q1 c1q2 c1f0 c1f1 c1f2 c1s0 c1s1 c1s2); have c1 := c1.below hbf c1.lt; obtain ⟨c1q0, c1q1, c1q2, c1f0, c1f1, c1f2, c1s0, c1s1, c1s2⟩ := c1.f3; (try clear c2q0 c2q1 c2q2 c2f0 c2f1 c2f2 c2s0 c2s1 c2s2); have c2 := c2.below hbf c2.lt; obtain ⟨c2q0, c2q1, c2q2, c2f0, c2f1, c2f2, c2s0, c2s1, c2s2⟩ := c2.f3))
 all_goals
  go_wp2
  refine bodyPost_ret (v := .agg #[.bool q, .int .u64 (lo N : Int), .string (mo N)]) (by simp [results, Tryz.results78, go_sem, c2s0, c2s1, c2s2]) rfl ?_
  exact ⟨rfl, bset3 (bthen (bthen hB (bdrew hba)) hbf) (by omega) _ _ _⟩
def cmpZ (a b : Int) : Int := if a < b then -1 else if b < a then 1 else 0
theorem cmpZ_nat (a b : Nat) : cmpZ (a : Int) (b : Int) = cmpI a b := by
 unfold cmpZ cmpI
 by_cases h1 : a < b
 ·rw [if_pos h1, if_pos (by omega)]
 rw [if_neg h1, if_neg (by omega)]
 by_cases h2 : b < a
 ·rw [if_pos h2, if_pos (by omega)]
 rw [if_neg h2, if_neg (by omega)]
theorem whole_cmp (x y : Int) (w : World) (hx : blen x.natAbs <= 1099511627776) (hy : blen y.natAbs <= 1099511627776) : Calls Tryz.prog 65 #[intV x, intV y] w (Ret (.int .i64 (cmpZ x y)) w) := by
 unfold intV
 have b0 := (Blk.new w  54 #[.bool (decide (x < 0)), .int .u64 (lo x.natAbs : Int), .string (mo x.natAbs)]).alloc (.cells #[.bool (decide (y < 0)), .int .u64 (lo y.natAbs : Int), .string (mo y.natAbs)] 54); have b1 := Blk.new2 w (.cells #[.bool (decide (x < 0)), .int .u64 (lo x.natAbs : Int), .string (mo x.natAbs)] 54) 54 #[.bool (decide (y < 0)), .int .u64 (lo y.natAbs : Int), .string (mo y.natAbs)]; have hB := balloc2 w (.cells #[.bool (decide (x < 0)), .int .u64 (lo x.natAbs : Int), .string (mo x.natAbs)] 54) (.cells #[.bool (decide (y < 0)), .int .u64 (lo y.natAbs : Int), .string (mo y.natAbs)] 54); have hZ := lh (show ((w.alloc (.cells #[.bool (decide (x < 0)), .int .u64 (lo x.natAbs : Int), .string (mo x.natAbs)] 54)).alloc (.cells #[.bool (decide (y < 0)), .int .u64 (lo y.natAbs : Int), .string (mo y.natAbs)] 54)).heap.size = w.heap.size + 1 + 1 from by simp)
 by_cases hx0 : x < 0
 ·have dx : decide (x < 0) = true := decide_eq_true hx0
  by_cases hy0 : y < 0
  ·have dy : decide (y < 0) = true := decide_eq_true hy0
   rw [dx, dy]
   rw [dx, dy] at b0 b1 hB hZ
   have e : cmpI y.natAbs x.natAbs = cmpZ x y := by
    rw [<- cmpZ_nat]
    have e1 : (x.natAbs : Int) = -x := by omega
    have e2 : (y.natAbs : Int) = -y := by omega
    rw [e1, e2]
    unfold cmpZ
    by_cases h1 : x < y
    ·rw [if_pos h1, if_pos (by omega)]
    rw [if_neg h1, if_neg (by omega)]
    by_cases h2 : y < x
    ·rw [if_pos h2, if_pos (by omega)]
    rw [if_neg h2, if_neg (by omega)]
   have HE := lh e
   clear e dx dy
   go_enter Tryz.func65, Tryz.ntmps65
   go_wp2_with fail
   generalize (w.alloc (.cells #[.bool true, .int .u64 (lo x.natAbs : Int), .string (mo x.natAbs)] 54)).alloc (.cells #[.bool true, .int .u64 (lo y.natAbs : Int), .string (mo y.natAbs)] 54) = W at *
   refine (nat_cmp y.natAbs x.natAbs W (by omega) (by omega)).mono ?_
   rintro e w1 ⟨rfl, hb1⟩
   rw [HE.out]
   go_wp2
   go_ret
   exact ⟨rfl, bthen hB hb1⟩
  have dy : decide (y < 0) = false := decide_eq_false hy0
  rw [dx, dy]
  rw [dx, dy] at b0 b1 hB hZ
  have e : cmpZ x y = -1 := by unfold cmpZ; rw [if_pos (by omega)]
  rw [e]
  clear e dx dy
  go_enter Tryz.func65, Tryz.ntmps65
  go_wp2
  go_ret
  exact ⟨rfl, hB⟩
 have dx : decide (x < 0) = false := decide_eq_false hx0
 by_cases hy0 : y < 0
 ·have dy : decide (y < 0) = true := decide_eq_true hy0
  rw [dx, dy]
  rw [dx, dy] at b0 b1 hB hZ
  have e : cmpZ x y = 1 := by unfold cmpZ; rw [if_neg (by omega), if_pos (by omega)]
  rw [e]
  clear e dx dy
  go_enter Tryz.func65, Tryz.ntmps65
  go_wp2
  go_ret
  exact ⟨rfl, hB⟩
 have dy : decide (y < 0) = false := decide_eq_false hy0
 rw [dx, dy]
 rw [dx, dy] at b0 b1 hB hZ
 have e : cmpI x.natAbs y.natAbs = cmpZ x y := by
  rw [<- cmpZ_nat]
  have e1 : (x.natAbs : Int) = x := by omega
  have e2 : (y.natAbs : Int) = y := by omega
  rw [e1, e2]
 have HE := lh e
 clear e dx dy
 go_enter Tryz.func65, Tryz.ntmps65
 go_wp2_with fail
 generalize (w.alloc (.cells #[.bool false, .int .u64 (lo x.natAbs : Int), .string (mo x.natAbs)] 54)).alloc (.cells #[.bool false, .int .u64 (lo y.natAbs : Int), .string (mo y.natAbs)] 54) = W at *
 refine (nat_cmp x.natAbs y.natAbs W (by omega) (by omega)).mono ?_
 rintro e w1 ⟨rfl, hb1⟩
 rw [HE.out]
 go_wp2
 go_ret
 exact ⟨rfl, bthen hB hb1⟩
def qden (q : Rat) : Nat := if q.den = 1 then 0 else q.den
def qV (q : Rat) : Value := .agg #[.bool (decide (q.num < 0)), .int .u64 (lo q.num.natAbs : Int), .string (mo q.num.natAbs), .int .u64 (lo (qden q) : Int), .string (mo (qden q))]
def QS (n : Nat) (q : Rat) : Prop := blen q.num.natAbs <= n /\ blen q.den <= n
theorem QS.mono {m n : Nat} {q : Rat} (h : QS m q) (hm : m <= n) : QS n q := ⟨nt h.1 hm, nt h.2 hm⟩
theorem qden_le (q : Rat) : qden q <= q.den := by unfold qden; split <;> omega
theorem QS.qden {n : Nat} {q : Rat} (h : QS n q) : blen (qden q) <= n := nt (blen_mono (qden_le q)) h.2
theorem qden_zero (q : Rat) : qden q = 0 ↔ q.den = 1 := by
 have := q.den_nz
 unfold Go.Proofs.YtecnjlcfoobepaaGreatDoor.qden
 split <;> omega
theorem blen_one (n : Nat) : blen n = 1 ↔ n = 1 := by
 constructor
 ·intro h
  have h0 : n ≠ 0 := fun e => by rw [e, blen_zero] at h; omega
  have h1 := blen_bounds n h0
  rw [h] at h1
  omega
 intro h
 subst h
 rfl
theorem rat_add_parts (a b : Rat) {g d o h : Nat} {up : Int} (hg : a.den.gcd b.den = g) (hd : a.den / g = d) (ho : b.den / g = o) (hu : a.num * o + b.num * d = up) (hh : up.natAbs.gcd g = h) :
  (a + b).num = up / h /\ (a + b).den = d * (b.den / h) := by
 have key : up.natAbs.gcd g = up.natAbs.gcd (d * b.den) := by
  have := Rat.add.aux a b hg.symm hd.symm ho.symm
  simp only [hu] at this
  exact this
 have hg0 : g ≠ 0 := by
  intro e
  rw [e] at hg
  have := Nat.gcd_eq_zero_iff.1 hg
  exact a.den_nz this.1
 have ga : d * g = a.den := by rw [<- hd]; exact Nat.div_mul_cancel (hg ▸ Nat.gcd_dvd_left ..)
 have gb : o * g = b.den := by rw [<- ho]; exact Nat.div_mul_cancel (hg ▸ Nat.gcd_dvd_right ..)
 have hd0 : d ≠ 0 := by
  intro e
  rw [e] at ga
  have := a.den_nz
  omega
 have hn : a.num * b.den + b.num * a.den = up * g := by
  rw [<- ga, <- gb, <- hu, Int.natCast_mul, Int.natCast_mul, Int.add_mul, Int.mul_assoc, Int.mul_assoc]
 have hm : a.den * b.den = d * b.den * g := by rw [<- ga, Nat.mul_right_comm]
 have e : a + b = mkRat up (d * b.den) := by
  rw [Rat.add_def', hn, hm, Rat.mkRat_mul_right hg0]
 have hdb : d * b.den ≠ 0 := Nat.mul_ne_zero hd0 b.den_nz
 have hhb : h ∣ b.den := Nat.dvd_trans (by rw [<- hh]; exact Nat.gcd_dvd_right ..) (by rw [<- hg]; exact Nat.gcd_dvd_right ..)
 rw [e, Rat.num_mkRat, Rat.den_mkRat, if_neg hdb, if_neg hdb, Nat.gcd_comm, <- key, hh]
 exact ⟨rfl, Nat.mul_div_assoc _ hhb⟩
theorem rat_mul_parts (a b : Rat) {g h : Nat} (hg : a.num.natAbs.gcd b.den = g) (hh : b.num.natAbs.gcd a.den = h) :
  (a * b).num = a.num / g * (b.num / h) /\ (a * b).den = a.den / h * (b.den / g) := by
 subst hg hh
 have e : a * b = Rat.mul a b := rfl
 rw [e]
 delta Rat.mul
 simp only [Int.divExact_eq_ediv, Nat.divExact_eq_div]
 exact ⟨trivial, trivial⟩
theorem rat_whole (a : Rat) (h : a.den = 1) : a = (a.num : Rat) := by
 apply Rat.ext
 ·rfl
 exact h
theorem rat_add_whole (a b : Rat) (ha : a.den = 1) (hb : b.den = 1) : (a + b).num = a.num + b.num /\ (a + b).den = 1 := by
 rw [rat_whole a ha, rat_whole b hb, <- Rat.intCast_add]
 exact ⟨rfl, rfl⟩
theorem rat_mul_whole (a b : Rat) (ha : a.den = 1) (hb : b.den = 1) : (a * b).num = a.num * b.num /\ (a * b).den = 1 := by
 rw [rat_whole a ha, rat_whole b hb, <- Rat.intCast_mul]
 exact ⟨rfl, rfl⟩
def cmpQ (a b : Rat) : Int := if a < b then -1 else if b < a then 1 else 0
theorem cmpQ_cross (a b : Rat) : cmpZ (a.num * b.den) (b.num * a.den) = cmpQ a b := by
 unfold cmpZ cmpQ
 simp only [Rat.lt_iff]
theorem cmpQ_whole (a b : Rat) (ha : a.den = 1) (hb : b.den = 1) : cmpZ a.num b.num = cmpQ a b := by
 rw [<- cmpQ_cross, ha, hb]
 simp
theorem cmpQ_signs (a b : Rat) (h : a.num.sign ≠ b.num.sign) : cmpZ a.num b.num = cmpQ a b := by
 rw [<- cmpQ_cross]
 have hda : (0 : Int) < a.den := by have := a.den_pos; omega
 have hdb : (0 : Int) < b.den := by have := b.den_pos; omega
 generalize a.num = x at *
 generalize b.num = y at *
 generalize (a.den : Int) = p at *
 generalize (b.den : Int) = q at *
 have key : (x < 0 /\ 0 <= y) \/ (x = 0 /\ y ≠ 0) \/ (0 < x /\ y <= 0) := by
  rcases Int.lt_trichotomy x 0 with hx | hx | hx
  ·rcases Int.lt_trichotomy y 0 with hy | hy | hy
   ·rw [Int.sign_eq_neg_one_of_neg hx, Int.sign_eq_neg_one_of_neg hy] at h
    exact absurd rfl h
   ·omega
   omega
  ·rcases Int.lt_trichotomy y 0 with hy | hy | hy
   ·omega
   ·subst hx hy
    exact absurd rfl h
   omega
  rcases Int.lt_trichotomy y 0 with hy | hy | hy
  ·omega
  ·omega
  rw [Int.sign_eq_one_of_pos hx, Int.sign_eq_one_of_pos hy] at h
  exact absurd rfl h
 unfold cmpZ
 rcases key with ⟨hx, hy⟩ | ⟨hx, hy⟩ | ⟨hx, hy⟩
 ·have h1 : x * q < 0 := Int.mul_neg_of_neg_of_pos hx hdb
  have h2 : 0 <= y * p := Int.mul_nonneg hy (by omega)
  rw [if_pos (by omega), if_pos (by omega)]
 ·subst hx
  rw [Int.zero_mul]
  rcases Int.lt_trichotomy y 0 with hy2 | hy2 | hy2
  ·have h1 : y * p < 0 := Int.mul_neg_of_neg_of_pos hy2 hda
   rw [if_neg (by omega), if_pos (by omega), if_neg (by omega), if_pos (by omega)]
  ·omega
  have h1 : 0 < y * p := Int.mul_pos hy2 hda
  rw [if_pos (by omega), if_pos (by omega)]
 have h1 : 0 < x * q := Int.mul_pos hx hdb
 have h2 : y * p <= 0 := Int.mul_nonpos_of_nonpos_of_nonneg hy (by omega)
 rw [if_neg (by omega), if_pos (by omega), if_neg (by omega), if_pos (by omega)]
theorem blen_div (a b : Nat) : blen (a / b) <= blen a := blen_mono (Nat.div_le_self _ _)
theorem natAbs_ediv {z : Int} {b : Nat} (h : b ∣ z.natAbs) : (z / (b : Int)).natAbs = z.natAbs / b := by
 rw [Int.natAbs_ediv_of_dvd (Int.ofNat_dvd_left.2 h), Int.natAbs_natCast]
theorem blen_ediv {z : Int} {b : Nat} (h : b ∣ z.natAbs) : blen (z / (b : Int)).natAbs <= blen z.natAbs := by
 rw [natAbs_ediv h]
 exact blen_div _ _
theorem blen_addz (a b : Int) : blen (a + b).natAbs <= max (blen a.natAbs) (blen b.natAbs) + 1 :=
 nt (blen_mono (Int.natAbs_add_le a b)) (blen_add _ _)
theorem blen_mulz (a b : Int) : blen (a * b).natAbs <= blen a.natAbs + blen b.natAbs := by
 rw [Int.natAbs_mul]
 exact blen_mul _ _
theorem mkRat_size (n : Int) (d k : Nat) (hd : d ≠ 0) (h1 : blen n.natAbs <= k) (h2 : blen d <= k) : QS k (mkRat n d) := by
 unfold QS
 rw [Rat.num_mkRat, Rat.den_mkRat, if_neg hd, if_neg hd]
 exact ⟨nt (blen_ediv (Nat.gcd_dvd_right ..)) h1, nt (blen_div _ _) h2⟩
theorem QS.add {m n : Nat} {a b : Rat} (ha : QS m a) (hb : QS n b) : QS (m + n + 1) (a + b) := by
 rw [Rat.add_def']
 have h1 := blen_addz (a.num * b.den) (b.num * a.den)
 have h2 := blen_mulz a.num b.den
 have h3 := blen_mulz b.num a.den
 have h4 := blen_mul a.den b.den
 rw [Int.natAbs_natCast] at h2 h3
 obtain ⟨ha1, ha2⟩ := ha
 obtain ⟨hb1, hb2⟩ := hb
 refine mkRat_size _ _ _ (Nat.mul_ne_zero a.den_nz b.den_nz) ?_ ?_ <;> omega
theorem QS.mul {m n : Nat} {a b : Rat} (ha : QS m a) (hb : QS n b) : QS (m + n) (a * b) := by
 rw [Rat.mul_def']
 have h2 := blen_mulz a.num b.num
 have h4 := blen_mul a.den b.den
 obtain ⟨ha1, ha2⟩ := ha
 obtain ⟨hb1, hb2⟩ := hb
 refine mkRat_size _ _ _ (Nat.mul_ne_zero a.den_nz b.den_nz) ?_ ?_ <;> omega
theorem QS.neg {m : Nat} {a : Rat} (ha : QS m a) : QS m (-a) := by
 unfold QS
 rw [Rat.neg_num, Rat.neg_den, Int.natAbs_neg]
 exact ha
theorem QS.inv {m : Nat} {a : Rat} (ha : QS m a) (hm : 1 <= m) : QS m a⁻¹ := by
 unfold QS
 rw [Rat.num_inv, Rat.den_inv, Int.natAbs_mul, Int.natAbs_natCast]
 obtain ⟨ha1, ha2⟩ := ha
 constructor
 ·refine nt (blen_mono ?_) ha2
  rcases Int.lt_trichotomy a.num 0 with h | h | h
  ·rw [Int.sign_eq_neg_one_of_neg h]; simp
  ·rw [h]; simp
  rw [Int.sign_eq_one_of_pos h]; simp
 split
 ·exact hm
 exact ha1
end Go.Proofs.YtecnjlcfoobepaaGreatDoor
