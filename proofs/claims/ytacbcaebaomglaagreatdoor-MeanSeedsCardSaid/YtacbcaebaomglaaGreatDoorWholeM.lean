import Derived.Test.YtacbcaebaomglaaGreatDoorNatC
namespace Go.Proofs.YtacbcaebaomglaaGreatDoor
set_option maxRecDepth 100000
set_option maxHeartbeats 400000
open Go.RowKit
set_option linter.all false
theorem Jdk (x y : Int) : signed (decide (x < 0) != decide (y < 0)) (x.natAbs * y.natAbs) = x * y := by
 unfold signed
 by_cases hx : x < 0
 ·have e1 : (x.natAbs : Int) = -x := by omega
  by_cases hy : y < 0
  ·have e2 : (y.natAbs : Int) = -y := by omega
   rw [decide_eq_true hx, decide_eq_true hy, if_neg (by decide), Int.natCast_mul, e1, e2, Int.neg_mul_neg]
  have e2 : (y.natAbs : Int) = y := by omega
  rw [decide_eq_true hx, decide_eq_false hy, if_pos (by decide), Int.natCast_mul, e1, e2, Int.neg_mul, Int.neg_neg]
 have e1 : (x.natAbs : Int) = x := by omega
 by_cases hy : y < 0
 ·have e2 : (y.natAbs : Int) = -y := by omega
  rw [decide_eq_false hx, decide_eq_true hy, if_pos (by decide), Int.natCast_mul, e1, e2, Int.mul_neg, Int.neg_neg]
 have e2 : (y.natAbs : Int) = y := by omega
 rw [decide_eq_false hx, decide_eq_false hy, if_neg (by decide), Int.natCast_mul, e1, e2]
theorem Jiu (x : Int) : signed (!decide (x < 0)) x.natAbs = -x := by
 unfold signed
 by_cases hx : x < 0
 ·simp [hx]; omega
 simp [hx]; omega
theorem Je6 (z : Int) (w : World) (hz : Je z.natAbs <= 1099511627776) : Calls Tryz.prog 112 #[Jx z] w (Ret (Jx (-z)) w) := by
 rw [<- Jiu z]
 have e8 := fun w => Qc (!decide (z < 0)) z.natAbs w (by omega)
 rw [Qw] at e8
 rw [Qw]
 unfold Jh at e8
 unfold Jx
 obtain ⟨b0, b1, hB, hZ⟩ := bx2 w 63 #[.bool (decide (z < 0)), .int .u64 (lo z.natAbs : Int), .string (mo z.natAbs)] 63 #[.bool false, .int .u64 0, .string ⟨#[]⟩]
 have HFR := lh e8
 clear e8
 obtain ⟨ng, aX⟩ : ∃ ng, decide (z < 0) = ng := ⟨_, rfl⟩
 rw [aX] at b0 b1 hB hZ HFR ⊢
 clear aX
 obtain ⟨q, hq⟩ : ∃ q, ((!ng) && decide (0 < z.natAbs)) = q := ⟨_, rfl⟩
 rw [hq] at HFR ⊢
 clear hq
 go_enter Tryz.func112, Tryz.ntmps112
 go_wp2_with fail
 generalize (w.alloc (.cells #[.bool ng, .int .u64 (lo z.natAbs : Int), .string (mo z.natAbs)] 63)).alloc (.cells #[.bool false, .int .u64 0, .string ⟨#[]⟩] 63) = W at *
 refine (HFR.out W).mono ?_
 rintro e w1 ⟨rfl, e9⟩
 have bA := Ja hB e9
 (try clear o9 p7 p8 aC aD aE p9 q8 s9); obtain ⟨b1, o9, p7, p8, aC, aD, aE, p9, q8, s9⟩ := b1.zf3 e9
 go_wp2
 refine bodyPost_ret (v := .agg #[.bool q, .int .u64 (lo z.natAbs : Int), .string (mo z.natAbs)]) (by simp [results, Tryz.results112, go_sem, p9, q8, s9]) rfl ?_
 exact ⟨rfl, Ki bA (by omega) _ _ _⟩
theorem Jb8 (x y : Int) (w : World) (hx : Je x.natAbs <= 1099511627776) (hy : Je y.natAbs <= 1099511627776) : Calls Tryz.prog 73 #[Jx x, Jx y] w (Ret (Jx (x * y)) w) := by
 rw [<- Jdk x y]
 have bB := Kz x.natAbs y.natAbs
 have e8 := fun w => Qc (decide (x < 0) != decide (y < 0)) (x.natAbs * y.natAbs) w (by omega)
 rw [Qw] at e8
 rw [Qw]
 have aF := fun w => Jgl x.natAbs y.natAbs w hx hy
 unfold Jh at e8 aF
 unfold Jx
 obtain ⟨b0, b1, b2, hB, hZ⟩ := bx3 w 63 #[.bool (decide (x < 0)), .int .u64 (lo x.natAbs : Int), .string (mo x.natAbs)] 63 #[.bool (decide (y < 0)), .int .u64 (lo y.natAbs : Int), .string (mo y.natAbs)] 63 #[.bool false, .int .u64 0, .string ⟨#[]⟩]
 have HFR := lh e8
 have HMU := lh aF
 clear e8 aF bB
 generalize x.natAbs * y.natAbs = N at *
 obtain ⟨nx, x9⟩ : ∃ nx, decide (x < 0) = nx := ⟨_, rfl⟩
 obtain ⟨ny, y8⟩ : ∃ ny, decide (y < 0) = ny := ⟨_, rfl⟩
 rw [x9, y8] at HFR
 rw [x9, y8] at b0 b1 b2 hB hZ
 rw [x9, y8]
 clear x9 y8
 obtain ⟨q, hq⟩ : ∃ q, ((nx != ny) && decide (0 < N)) = q := ⟨_, rfl⟩
 rw [hq] at HFR ⊢
 clear hq
 go_enter Tryz.func73, Tryz.ntmps73
 go_wp2_with fail
 generalize ((w.alloc (.cells #[.bool nx, .int .u64 (lo x.natAbs : Int), .string (mo x.natAbs)] 63)).alloc (.cells #[.bool ny, .int .u64 (lo y.natAbs : Int), .string (mo y.natAbs)] 63)).alloc (.cells #[.bool false, .int .u64 0, .string ⟨#[]⟩] 63) = W at *
 obtain ⟨bC, bD, bE⟩ := b0.c3; obtain ⟨o9, p7, p8⟩ := b1.c3
 have c0 := b0.drew
 have c1 := b1.drew
 have c2 := b2.drew
 have n1 := neA w.heap.size
 have n2 := neB w.heap.size
 go_region_held3 (fun w' => w'.cell? ⟨w.heap.size, 0, none⟩ = some (.bool nx) /\ w'.cell? ⟨w.heap.size, 1, none⟩ = some (.int .u64 (lo x.natAbs : Int)) /\ w'.cell? ⟨w.heap.size, 2, none⟩ = some (.string (mo x.natAbs)) /\ w'.cell? ⟨w.heap.size + 1, 0, none⟩ = some (.bool ny) /\ w'.cell? ⟨w.heap.size + 1, 1, none⟩ = some (.int .u64 (lo y.natAbs : Int)) /\ w'.cell? ⟨w.heap.size + 1, 2, none⟩ = some (.string (mo y.natAbs))) (go_keep) (first | (go_at_call 79; refine (HMU.out _).mono ?_; rintro e wa ⟨rfl, y9⟩; (try clear j0 j6 j7); obtain ⟨c0, j0, j6, j7⟩ := c0.zc3 y9; (try clear j8 j9 o0); obtain ⟨c1, j8, j9, o0⟩ := c1.zc3 y9; (try clear o6 o7 o8); obtain ⟨c2, o6, o7, o8⟩ := c2.zc3 y9) | (go_at_call 67; refine (HFR.out _).mono ?_; rintro e wf ⟨rfl, aA⟩; (try clear j0 j6 j7 aG aH aI aJ aK aL); obtain ⟨c0, j0, j6, j7, aG, aH, aI, aJ, aK, aL⟩ := c0.zf3 aA; (try clear j8 j9 o0 aM aN aO aP aQ aR); obtain ⟨c1, j8, j9, o0, aM, aN, aO, aP, aQ, aR⟩ := c1.zf3 aA; (try clear o6 o7 o8 aS aT aU t7 t8 u4); obtain ⟨c2, o6, o7, o8, aS, aT, aU, t7, t8, u4⟩ := c2.zf3 aA))
 all_goals
  go_wp2
  refine bodyPost_ret (v := .agg #[.bool q, .int .u64 (lo N : Int), .string (mo N)]) (by simp [results, Tryz.results73, go_sem, t7, t8, u4]) rfl ?_
  exact ⟨rfl, Ki (Ja (Ja hB (Ja9 y9)) aA) (by omega) _ _ _⟩
def Vn (a b : Int) : Int := if a < b then -1 else if b < a then 1 else 0
theorem Jih (a b : Nat) : Vn (a : Int) (b : Int) = Qx a b := by
 unfold Vn Qx
 by_cases h1 : a < b
 ·rw [if_pos h1, if_pos (by omega)]
 rw [if_neg h1, if_neg (by omega)]
 by_cases h2 : b < a
 ·rw [if_pos h2, if_pos (by omega)]
 rw [if_neg h2, if_neg (by omega)]
theorem Je7 (x y : Int) (w : World) (hx : Je x.natAbs <= 1099511627776) (hy : Je y.natAbs <= 1099511627776) : Calls Tryz.prog 80 #[Jx x, Jx y] w (Ret (.int .i64 (Vn x y)) w) := by
 unfold Jx
 obtain ⟨b0, b1, hB, hZ⟩ := bx2 w 63 #[.bool (decide (x < 0)), .int .u64 (lo x.natAbs : Int), .string (mo x.natAbs)] 63 #[.bool (decide (y < 0)), .int .u64 (lo y.natAbs : Int), .string (mo y.natAbs)]
 by_cases aY : x < 0
 ·have dx : decide (x < 0) = true := decide_eq_true aY
  by_cases x7 : y < 0
  ·have dy : decide (y < 0) = true := decide_eq_true x7
   rw [dx, dy]
   rw [dx, dy] at b0 b1 hB hZ
   have e : Qx y.natAbs x.natAbs = Vn x y := by
    rw [<- Jih]
    have e1 : (x.natAbs : Int) = -x := by omega
    have e2 : (y.natAbs : Int) = -y := by omega
    rw [e1, e2]
    unfold Vn
    by_cases h1 : x < y
    ·rw [if_pos h1, if_pos (by omega)]
    rw [if_neg h1, if_neg (by omega)]
    by_cases h2 : y < x
    ·rw [if_pos h2, if_pos (by omega)]
    rw [if_neg h2, if_neg (by omega)]
   have HE := lh e
   clear e dx dy
   go_enter Tryz.func80, Tryz.ntmps80
   go_wp2_with fail
   generalize (w.alloc (.cells #[.bool true, .int .u64 (lo x.natAbs : Int), .string (mo x.natAbs)] 63)).alloc (.cells #[.bool true, .int .u64 (lo y.natAbs : Int), .string (mo y.natAbs)] 63) = W at *
   refine (Zt y.natAbs x.natAbs W (by omega) (by omega)).mono ?_
   rintro e w1 ⟨rfl, e9⟩
   rw [HE.out]
   go_wp2
   go_ret
   exact ⟨rfl, Ja hB e9⟩
  have dy : decide (y < 0) = false := decide_eq_false x7
  rw [dx, dy]
  rw [dx, dy] at b0 b1 hB hZ
  have e : Vn x y = -1 := by unfold Vn; rw [if_pos (by omega)]
  rw [e]
  clear e dx dy
  go_enter Tryz.func80, Tryz.ntmps80
  go_wp2
  go_ret
  exact ⟨rfl, hB⟩
 have dx : decide (x < 0) = false := decide_eq_false aY
 by_cases x7 : y < 0
 ·have dy : decide (y < 0) = true := decide_eq_true x7
  rw [dx, dy]
  rw [dx, dy] at b0 b1 hB hZ
  have e : Vn x y = 1 := by unfold Vn; rw [if_neg (by omega), if_pos (by omega)]
  rw [e]
  clear e dx dy
  go_enter Tryz.func80, Tryz.ntmps80
  go_wp2
  go_ret
  exact ⟨rfl, hB⟩
 have dy : decide (y < 0) = false := decide_eq_false x7
 rw [dx, dy]
 rw [dx, dy] at b0 b1 hB hZ
 have e : Qx x.natAbs y.natAbs = Vn x y := by
  rw [<- Jih]
  have e1 : (x.natAbs : Int) = x := by omega
  have e2 : (y.natAbs : Int) = y := by omega
  rw [e1, e2]
 have HE := lh e
 clear e dx dy
 go_enter Tryz.func80, Tryz.ntmps80
 go_wp2_with fail
 generalize (w.alloc (.cells #[.bool false, .int .u64 (lo x.natAbs : Int), .string (mo x.natAbs)] 63)).alloc (.cells #[.bool false, .int .u64 (lo y.natAbs : Int), .string (mo y.natAbs)] 63) = W at *
 refine (Zt x.natAbs y.natAbs W (by omega) (by omega)).mono ?_
 rintro e w1 ⟨rfl, e9⟩
 rw [HE.out]
 go_wp2
 go_ret
 exact ⟨rfl, Ja hB e9⟩
def qden (q : Rat) : Nat := if q.den = 1 then 0 else q.den
def qV (q : Rat) : Value := .agg #[.bool (decide (q.num < 0)), .int .u64 (lo q.num.natAbs : Int), .string (mo q.num.natAbs), .int .u64 (lo (qden q) : Int), .string (mo (qden q))]
def QS (n : Nat) (q : Rat) : Prop := Je q.num.natAbs <= n /\ Je q.den <= n
theorem QS.mono {m n : Nat} {q : Rat} (h : QS m q) (hm : m <= n) : QS n q := ⟨nt h.1 hm, nt h.2 hm⟩
theorem Jng (q : Rat) : qden q <= q.den := by unfold qden; split <;> omega
theorem QS.qden {n : Nat} {q : Rat} (h : QS n q) : Je (qden q) <= n := nt (Jz (Jng q)) h.2
theorem Yg (q : Rat) : qden q = 0 ↔ q.den = 1 := by
 have := q.den_nz
 unfold Go.Proofs.YtacbcaebaomglaaGreatDoor.qden
 split <;> omega
theorem Jim (n : Nat) : Je n = 1 ↔ n = 1 := by
 constructor
 ·intro h
  have h0 : n ≠ 0 := fun e => by rw [e, Jf2] at h; omega
  have h1 := Xn n h0
  rw [h] at h1
  omega
 intro h
 subst h
 rfl
theorem Jet (a b : Rat) {g d o h : Nat} {up : Int} (hg : a.den.gcd b.den = g) (hd : a.den / g = d) (ho : b.den / g = o) (hu : a.num * o + b.num * d = up) (hh : up.natAbs.gcd g = h) :
  (a + b).num = up / h /\ (a + b).den = d * (b.den / h) := by
 have key : up.natAbs.gcd g = up.natAbs.gcd (d * b.den) := by
  have := Rat.add.aux a b hg.symm hd.symm ho.symm
  simp only [hu] at this
  exact this
 have bF : g ≠ 0 := by
  intro e
  rw [e] at hg
  have := Nat.gcd_eq_zero_iff.1 hg
  exact a.den_nz this.1
 have ga : d * g = a.den := by rw [<- hd]; exact Nat.div_mul_cancel (hg ▸ Nat.gcd_dvd_left ..)
 have gb : o * g = b.den := by rw [<- ho]; exact Nat.div_mul_cancel (hg ▸ Nat.gcd_dvd_right ..)
 have bG : d ≠ 0 := by
  intro e
  rw [e] at ga
  have := a.den_nz
  omega
 have hn : a.num * b.den + b.num * a.den = up * g := by
  rw [<- ga, <- gb, <- hu, Int.natCast_mul, Int.natCast_mul, Int.add_mul, Int.mul_assoc, Int.mul_assoc]
 have hm : a.den * b.den = d * b.den * g := by rw [<- ga, Nat.mul_right_comm]
 have e : a + b = mkRat up (d * b.den) := by
  rw [Rat.add_def', hn, hm, Rat.mkRat_mul_right bF]
 have x8 : d * b.den ≠ 0 := Nat.mul_ne_zero bG b.den_nz
 have bH : h ∣ b.den := Nat.dvd_trans (by rw [<- hh]; exact Nat.gcd_dvd_right ..) (by rw [<- hg]; exact Nat.gcd_dvd_right ..)
 rw [e, Rat.num_mkRat, Rat.den_mkRat, if_neg x8, if_neg x8, Nat.gcd_comm, <- key, hh]
 exact ⟨rfl, Nat.mul_div_assoc _ bH⟩
theorem Jer (a b : Rat) {g h : Nat} (hg : a.num.natAbs.gcd b.den = g) (hh : b.num.natAbs.gcd a.den = h) :
  (a * b).num = a.num / g * (b.num / h) /\ (a * b).den = a.den / h * (b.den / g) := by
 subst hg hh
 have e : a * b = Rat.mul a b := rfl
 rw [e]
 delta Rat.mul
 simp only [Int.divExact_eq_ediv, Nat.divExact_eq_div]
 exact ⟨trivial, trivial⟩
theorem Jaw (a : Rat) (h : a.den = 1) : a = (a.num : Rat) := by
 apply Rat.ext
 ·rfl
 exact h
theorem Jes (a b : Rat) (ha : a.den = 1) (hb : b.den = 1) : (a + b).num = a.num + b.num /\ (a + b).den = 1 := by
 rw [Jaw a ha, Jaw b hb, <- Rat.intCast_add]
 exact ⟨rfl, rfl⟩
theorem Jeq (a b : Rat) (ha : a.den = 1) (hb : b.den = 1) : (a * b).num = a.num * b.num /\ (a * b).den = 1 := by
 rw [Jaw a ha, Jaw b hb, <- Rat.intCast_mul]
 exact ⟨rfl, rfl⟩
def Vq (a b : Rat) : Int := if a < b then -1 else if b < a then 1 else 0
theorem Jbj (a b : Rat) : Vn (a.num * b.den) (b.num * a.den) = Vq a b := by
 unfold Vn Vq
 simp only [Rat.lt_iff]
theorem Jjq (a b : Rat) (ha : a.den = 1) (hb : b.den = 1) : Vn a.num b.num = Vq a b := by
 rw [<- Jbj, ha, hb]
 simp
theorem Jjr (a b : Rat) (h : a.num.sign ≠ b.num.sign) : Vn a.num b.num = Vq a b := by
 rw [<- Jbj]
 have aZ : (0 : Int) < a.den := by have := a.den_pos; omega
 have x8 : (0 : Int) < b.den := by have := b.den_pos; omega
 generalize a.num = x at *
 generalize b.num = y at *
 generalize (a.den : Int) = p at *
 generalize (b.den : Int) = q at *
 have key : (x < 0 /\ 0 <= y) \/ (x = 0 /\ y ≠ 0) \/ (0 < x /\ y <= 0) := by
  rcases Int.lt_trichotomy x 0 with hx | hx | hx
  ·rcases Int.lt_trichotomy y 0 with hy | hy | hy
   ·rw [Int.sign_eq_neg_one_of_neg hx, Int.sign_eq_neg_one_of_neg hy] at h
    exact absurd rfl h
   ·omega
   omega
  ·rcases Int.lt_trichotomy y 0 with hy | hy | hy
   ·omega
   ·subst hx hy
    exact absurd rfl h
   omega
  rcases Int.lt_trichotomy y 0 with hy | hy | hy
  ·omega
  ·omega
  rw [Int.sign_eq_one_of_pos hx, Int.sign_eq_one_of_pos hy] at h
  exact absurd rfl h
 unfold Vn
 rcases key with ⟨hx, hy⟩ | ⟨hx, hy⟩ | ⟨hx, hy⟩
 ·have h1 : x * q < 0 := Int.mul_neg_of_neg_of_pos hx x8
  have h2 : 0 <= y * p := Int.mul_nonneg hy (by omega)
  rw [if_pos (by omega), if_pos (by omega)]
 ·subst hx
  rw [Int.zero_mul]
  rcases Int.lt_trichotomy y 0 with aB | aB | aB
  ·have h1 : y * p < 0 := Int.mul_neg_of_neg_of_pos aB aZ
   rw [if_neg (by omega), if_pos (by omega), if_neg (by omega), if_pos (by omega)]
  ·omega
  have h1 : 0 < y * p := Int.mul_pos aB aZ
  rw [if_pos (by omega), if_pos (by omega)]
 have h1 : 0 < x * q := Int.mul_pos hx x8
 have h2 : y * p <= 0 := Int.mul_nonpos_of_nonpos_of_nonneg hy (by omega)
 rw [if_neg (by omega), if_pos (by omega), if_neg (by omega), if_pos (by omega)]
theorem Zo (a b : Nat) : Je (a / b) <= Je a := Jz (Nat.div_le_self _ _)
theorem Jh3 {z : Int} {b : Nat} (h : b ∣ z.natAbs) : (z / (b : Int)).natAbs = z.natAbs / b := by
 rw [Int.natAbs_ediv_of_dvd (Int.ofNat_dvd_left.2 h), Int.natAbs_natCast]
theorem Ja3 {z : Int} {b : Nat} (h : b ∣ z.natAbs) : Je (z / (b : Int)).natAbs <= Je z.natAbs := by
 rw [Jh3 h]
 exact Zo _ _
theorem Jf3 (a b : Int) : Je (a + b).natAbs <= max (Je a.natAbs) (Je b.natAbs) + 1 :=
 nt (Jz (Int.natAbs_add_le a b)) (Jej _ _)
theorem Yy (a b : Int) : Je (a * b).natAbs <= Je a.natAbs + Je b.natAbs := by
 rw [Int.natAbs_mul]
 exact Kz _ _
theorem Jdy (n : Int) (d k : Nat) (hd : d ≠ 0) (h1 : Je n.natAbs <= k) (h2 : Je d <= k) : QS k (mkRat n d) := by
 unfold QS
 rw [Rat.num_mkRat, Rat.den_mkRat, if_neg hd, if_neg hd]
 exact ⟨nt (Ja3 (Nat.gcd_dvd_right ..)) h1, nt (Zo _ _) h2⟩
theorem QS.add {m n : Nat} {a b : Rat} (ha : QS m a) (hb : QS n b) : QS (m + n + 1) (a + b) := by
 rw [Rat.add_def']
 have h1 := Jf3 (a.num * b.den) (b.num * a.den)
 have h2 := Yy a.num b.den
 have h3 := Yy b.num a.den
 have h4 := Kz a.den b.den
 rw [Int.natAbs_natCast] at h2 h3
 obtain ⟨aV, aW⟩ := ha
 obtain ⟨e9, bI⟩ := hb
 refine Jdy _ _ _ (Nat.mul_ne_zero a.den_nz b.den_nz) ?_ ?_ <;> omega
theorem QS.mul {m n : Nat} {a b : Rat} (ha : QS m a) (hb : QS n b) : QS (m + n) (a * b) := by
 rw [Rat.mul_def']
 have h2 := Yy a.num b.num
 have h4 := Kz a.den b.den
 obtain ⟨aV, aW⟩ := ha
 obtain ⟨e9, bI⟩ := hb
 refine Jdy _ _ _ (Nat.mul_ne_zero a.den_nz b.den_nz) ?_ ?_ <;> omega
theorem QS.neg {m : Nat} {a : Rat} (ha : QS m a) : QS m (-a) := by
 unfold QS
 rw [Rat.neg_num, Rat.neg_den, Int.natAbs_neg]
 exact ha
theorem QS.inv {m : Nat} {a : Rat} (ha : QS m a) (hm : 1 <= m) : QS m a⁻¹ := by
 unfold QS
 rw [Rat.num_inv, Rat.den_inv, Int.natAbs_mul, Int.natAbs_natCast]
 obtain ⟨aV, aW⟩ := ha
 constructor
 ·refine nt (Jz ?_) aW
  rcases Int.lt_trichotomy a.num 0 with h | h | h
  ·rw [Int.sign_eq_neg_one_of_neg h]; simp
  ·rw [h]; simp
  rw [Int.sign_eq_one_of_pos h]; simp
 split
 ·exact hm
 exact aV
