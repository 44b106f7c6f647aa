import Derived.Test.YtcoloflmigcphaaGreatDoorNatC
namespace Go.Proofs.YtcoloflmigcphaaGreatDoor
set_option maxRecDepth 100000
set_option maxHeartbeats 400000
open Go.RowKit
set_option linter.all false
theorem Jhs (x y : Int) : signed (decide (x < 0) != decide (y < 0)) (x.natAbs * y.natAbs) = x * y := by
 unfold signed
 by_cases hx : x < 0
 ·have e1 : (x.natAbs : Int) = -x := by omega
  by_cases hy : y < 0
  ·have e2 : (y.natAbs : Int) = -y := by omega
   rw [decide_eq_true hx, decide_eq_true hy, if_neg (by decide), Int.natCast_mul, e1, e2, Int.neg_mul_neg]
  have e2 : (y.natAbs : Int) = y := by omega
  rw [decide_eq_true hx, decide_eq_false hy, if_pos (by decide), Int.natCast_mul, e1, e2, Int.neg_mul, Int.neg_neg]
 have e1 : (x.natAbs : Int) = x := by omega
 by_cases hy : y < 0
 ·have e2 : (y.natAbs : Int) = -y := by omega
  rw [decide_eq_false hx, decide_eq_true hy, if_pos (by decide), Int.natCast_mul, e1, e2, Int.mul_neg, Int.neg_neg]
 have e2 : (y.natAbs : Int) = y := by omega
 rw [decide_eq_false hx, decide_eq_false hy, if_neg (by decide), Int.natCast_mul, e1, e2]
theorem Jpz (x : Int) : signed (!decide (x < 0)) x.natAbs = -x := by
 unfold signed
 by_cases hx : x < 0
 ·simp [hx]; omega
 simp [hx]; omega
theorem Jqf (z : Int) (w : World) (hz : Je z.natAbs <= 1099511627776) : Calls Tryz.prog 99 #[Qj z] w (Ret (Qj (-z)) w) := by
 rw [<- Jpz z]
 have bO := fun w => Qw (!decide (z < 0)) z.natAbs w (by omega)
 rw [Xc] at bO
 rw [Xc]
 unfold Jg at bO
 unfold Qj
 obtain ⟨b0, b1, hB, hZ⟩ := bx2 w 39 #[.bool (decide (z < 0)), .int .u64 (lo z.natAbs : Int), .string (mo z.natAbs)] 39 #[.bool false, .int .u64 0, .string ⟨#[]⟩]
 have HFR := lh bO
 clear bO
 obtain ⟨ng, bM⟩ : ∃ ng, decide (z < 0) = ng := ⟨_, rfl⟩
 rw [bM] at b0 b1 hB hZ HFR ⊢
 clear bM
 obtain ⟨q, hq⟩ : ∃ q, ((!ng) && decide (0 < z.natAbs)) = q := ⟨_, rfl⟩
 rw [hq] at HFR ⊢
 clear hq
 go_enter Tryz.func99, Tryz.ntmps99
 go_wp2_with fail
 generalize (w.alloc (.cells #[.bool ng, .int .u64 (lo z.natAbs : Int), .string (mo z.natAbs)] 39)).alloc (.cells #[.bool false, .int .u64 0, .string ⟨#[]⟩] 39) = W at *
 refine (HFR.out W).mono ?_
 rintro e w1 ⟨rfl, s9⟩
 have bN := Ja hB s9
 (try clear bA bB bC bJ bK bL bS bH bI); obtain ⟨b1, bA, bB, bC, bJ, bK, bL, bS, bH, bI⟩ := b1.zf3 s9
 go_wp2
 refine bodyPost_ret (v := .agg #[.bool q, .int .u64 (lo z.natAbs : Int), .string (mo z.natAbs)]) (by simp [results, Tryz.results99, go_sem, bS, bH, bI]) rfl ?_
 exact ⟨rfl, Kw bN (by omega) _ _ _⟩
theorem Ja2 (x y : Int) (w : World) (hx : Je x.natAbs <= 1099511627776) (hy : Je y.natAbs <= 1099511627776) : Calls Tryz.prog 87 #[Qj x, Qj y] w (Ret (Qj (x * y)) w) := by
 rw [<- Jhs x y]
 have aW := Jav x.natAbs y.natAbs
 have bO := fun w => Qw (decide (x < 0) != decide (y < 0)) (x.natAbs * y.natAbs) w (by omega)
 rw [Xc] at bO
 rw [Xc]
 have aC := fun w => Jfb x.natAbs y.natAbs w hx hy
 unfold Jg at bO aC
 unfold Qj
 obtain ⟨b0, b1, b2, hB, hZ⟩ := bx3 w 39 #[.bool (decide (x < 0)), .int .u64 (lo x.natAbs : Int), .string (mo x.natAbs)] 39 #[.bool (decide (y < 0)), .int .u64 (lo y.natAbs : Int), .string (mo y.natAbs)] 39 #[.bool false, .int .u64 0, .string ⟨#[]⟩]
 have HFR := lh bO
 have HMU := lh aC
 clear bO aC aW
 generalize x.natAbs * y.natAbs = N at *
 obtain ⟨nx, bW⟩ : ∃ nx, decide (x < 0) = nx := ⟨_, rfl⟩
 obtain ⟨ny, bX⟩ : ∃ ny, decide (y < 0) = ny := ⟨_, rfl⟩
 rw [bW, bX] at HFR
 rw [bW, bX] at b0 b1 b2 hB hZ
 rw [bW, bX]
 clear bW bX
 obtain ⟨q, hq⟩ : ∃ q, ((nx != ny) && decide (0 < N)) = q := ⟨_, rfl⟩
 rw [hq] at HFR ⊢
 clear hq
 go_enter Tryz.func87, Tryz.ntmps87
 go_wp2_with fail
 generalize ((w.alloc (.cells #[.bool nx, .int .u64 (lo x.natAbs : Int), .string (mo x.natAbs)] 39)).alloc (.cells #[.bool ny, .int .u64 (lo y.natAbs : Int), .string (mo y.natAbs)] 39)).alloc (.cells #[.bool false, .int .u64 0, .string ⟨#[]⟩] 39) = W at *
 obtain ⟨aX, aY, aZ⟩ := b0.c3; obtain ⟨bA, bB, bC⟩ := b1.c3
 have c0 := b0.drew
 have c1 := b1.drew
 have c2 := b2.drew
 have n1 := neA w.heap.size
 have n2 := neB w.heap.size
 go_region_held3 (fun w' => w'.cell? ⟨w.heap.size, 0, none⟩ = some (.bool nx) /\ w'.cell? ⟨w.heap.size, 1, none⟩ = some (.int .u64 (lo x.natAbs : Int)) /\ w'.cell? ⟨w.heap.size, 2, none⟩ = some (.string (mo x.natAbs)) /\ w'.cell? ⟨w.heap.size + 1, 0, none⟩ = some (.bool ny) /\ w'.cell? ⟨w.heap.size + 1, 1, none⟩ = some (.int .u64 (lo y.natAbs : Int)) /\ w'.cell? ⟨w.heap.size + 1, 2, none⟩ = some (.string (mo y.natAbs))) (go_keep) (first | (go_at_call 86; refine (HMU.out _).mono ?_; rintro e wa ⟨rfl, y9⟩; (try clear j0 j6 j7); obtain ⟨c0, j0, j6, j7⟩ := c0.zc3 y9; (try clear j8 j9 bP); obtain ⟨c1, j8, j9, bP⟩ := c1.zc3 y9; (try clear bQ bR o0); obtain ⟨c2, bQ, bR, o0⟩ := c2.zc3 y9) | (go_at_call 53; refine (HFR.out _).mono ?_; rintro e wf ⟨rfl, aA⟩; (try clear j0 j6 j7 aD aE aF aG aH aI); obtain ⟨c0, j0, j6, j7, aD, aE, aF, aG, aH, aI⟩ := c0.zf3 aA; (try clear j8 j9 bP aJ aK aL aM aN aO); obtain ⟨c1, j8, j9, bP, aJ, aK, aL, aM, aN, aO⟩ := c1.zf3 aA; (try clear bQ bR o0 aP aQ aR o9 bT p9); obtain ⟨c2, bQ, bR, o0, aP, aQ, aR, o9, bT, p9⟩ := c2.zf3 aA))
 all_goals
  go_wp2
  refine bodyPost_ret (v := .agg #[.bool q, .int .u64 (lo N : Int), .string (mo N)]) (by simp [results, Tryz.results87, go_sem, o9, bT, p9]) rfl ?_
  exact ⟨rfl, Kw (Ja (Ja hB (Jaw y9)) aA) (by omega) _ _ _⟩
def Uk (a b : Int) : Int := if a < b then -1 else if b < a then 1 else 0
theorem Jg5 (a b : Nat) : Uk (a : Int) (b : Int) = Qz a b := by
 unfold Uk Qz
 by_cases h1 : a < b
 ·rw [if_pos h1, if_pos (by omega)]
 rw [if_neg h1, if_neg (by omega)]
 by_cases h2 : b < a
 ·rw [if_pos h2, if_pos (by omega)]
 rw [if_neg h2, if_neg (by omega)]
theorem Jdw (x y : Int) (w : World) (hx : Je x.natAbs <= 1099511627776) (hy : Je y.natAbs <= 1099511627776) : Calls Tryz.prog 88 #[Qj x, Qj y] w (Ret (.int .i64 (Uk x y)) w) := by
 unfold Qj
 obtain ⟨b0, b1, hB, hZ⟩ := bx2 w 39 #[.bool (decide (x < 0)), .int .u64 (lo x.natAbs : Int), .string (mo x.natAbs)] 39 #[.bool (decide (y < 0)), .int .u64 (lo y.natAbs : Int), .string (mo y.natAbs)]
 by_cases aU : x < 0
 ·have dx : decide (x < 0) = true := decide_eq_true aU
  by_cases bU : y < 0
  ·have dy : decide (y < 0) = true := decide_eq_true bU
   rw [dx, dy]
   rw [dx, dy] at b0 b1 hB hZ
   have e : Qz y.natAbs x.natAbs = Uk x y := by
    rw [<- Jg5]
    have e1 : (x.natAbs : Int) = -x := by omega
    have e2 : (y.natAbs : Int) = -y := by omega
    rw [e1, e2]
    unfold Uk
    by_cases h1 : x < y
    ·rw [if_pos h1, if_pos (by omega)]
    rw [if_neg h1, if_neg (by omega)]
    by_cases h2 : y < x
    ·rw [if_pos h2, if_pos (by omega)]
    rw [if_neg h2, if_neg (by omega)]
   have HE := lh e
   clear e dx dy
   go_enter Tryz.func88, Tryz.ntmps88
   go_wp2_with fail
   generalize (w.alloc (.cells #[.bool true, .int .u64 (lo x.natAbs : Int), .string (mo x.natAbs)] 39)).alloc (.cells #[.bool true, .int .u64 (lo y.natAbs : Int), .string (mo y.natAbs)] 39) = W at *
   refine (Zb y.natAbs x.natAbs W (by omega) (by omega)).mono ?_
   rintro e w1 ⟨rfl, s9⟩
   rw [HE.out]
   go_wp2
   go_ret
   exact ⟨rfl, Ja hB s9⟩
  have dy : decide (y < 0) = false := decide_eq_false bU
  rw [dx, dy]
  rw [dx, dy] at b0 b1 hB hZ
  have e : Uk x y = -1 := by unfold Uk; rw [if_pos (by omega)]
  rw [e]
  clear e dx dy
  go_enter Tryz.func88, Tryz.ntmps88
  go_wp2
  go_ret
  exact ⟨rfl, hB⟩
 have dx : decide (x < 0) = false := decide_eq_false aU
 by_cases bU : y < 0
 ·have dy : decide (y < 0) = true := decide_eq_true bU
  rw [dx, dy]
  rw [dx, dy] at b0 b1 hB hZ
  have e : Uk x y = 1 := by unfold Uk; rw [if_neg (by omega), if_pos (by omega)]
  rw [e]
  clear e dx dy
  go_enter Tryz.func88, Tryz.ntmps88
  go_wp2
  go_ret
  exact ⟨rfl, hB⟩
 have dy : decide (y < 0) = false := decide_eq_false bU
 rw [dx, dy]
 rw [dx, dy] at b0 b1 hB hZ
 have e : Qz x.natAbs y.natAbs = Uk x y := by
  rw [<- Jg5]
  have e1 : (x.natAbs : Int) = x := by omega
  have e2 : (y.natAbs : Int) = y := by omega
  rw [e1, e2]
 have HE := lh e
 clear e dx dy
 go_enter Tryz.func88, Tryz.ntmps88
 go_wp2_with fail
 generalize (w.alloc (.cells #[.bool false, .int .u64 (lo x.natAbs : Int), .string (mo x.natAbs)] 39)).alloc (.cells #[.bool false, .int .u64 (lo y.natAbs : Int), .string (mo y.natAbs)] 39) = W at *
 refine (Zb x.natAbs y.natAbs W (by omega) (by omega)).mono ?_
 rintro e w1 ⟨rfl, s9⟩
 rw [HE.out]
 go_wp2
 go_ret
 exact ⟨rfl, Ja hB s9⟩
def qden (q : Rat) : Nat := if q.den = 1 then 0 else q.den
def qV (q : Rat) : Value := .agg #[.bool (decide (q.num < 0)), .int .u64 (lo q.num.natAbs : Int), .string (mo q.num.natAbs), .int .u64 (lo (qden q) : Int), .string (mo (qden q))]
def QS (n : Nat) (q : Rat) : Prop := Je q.num.natAbs <= n /\ Je q.den <= n
theorem QS.mono {m n : Nat} {q : Rat} (h : QS m q) (hm : m <= n) : QS n q := ⟨nt h.1 hm, nt h.2 hm⟩
theorem Jmd (q : Rat) : qden q <= q.den := by unfold qden; split <;> omega
theorem QS.qden {n : Nat} {q : Rat} (h : QS n q) : Je (qden q) <= n := nt (Qc (Jmd q)) h.2
theorem Zi (q : Rat) : qden q = 0 ↔ q.den = 1 := by
 have := q.den_nz
 unfold Go.Proofs.YtcoloflmigcphaaGreatDoor.qden
 split <;> omega
theorem Jhe (n : Nat) : Je n = 1 ↔ n = 1 := by
 constructor
 ·intro h
  have h0 : n ≠ 0 := fun e => by rw [e, Jep] at h; omega
  have h1 := Xe n h0
  rw [h] at h1
  omega
 intro h
 subst h
 rfl
theorem Jdi (a b : Rat) {g d o h : Nat} {up : Int} (hg : a.den.gcd b.den = g) (hd : a.den / g = d) (ho : b.den / g = o) (hu : a.num * o + b.num * d = up) (hh : up.natAbs.gcd g = h) :
  (a + b).num = up / h /\ (a + b).den = d * (b.den / h) := by
 have key : up.natAbs.gcd g = up.natAbs.gcd (d * b.den) := by
  have := Rat.add.aux a b hg.symm hd.symm ho.symm
  simp only [hu] at this
  exact this
 have bD : g ≠ 0 := by
  intro e
  rw [e] at hg
  have := Nat.gcd_eq_zero_iff.1 hg
  exact a.den_nz this.1
 have ga : d * g = a.den := by rw [<- hd]; exact Nat.div_mul_cancel (hg ▸ Nat.gcd_dvd_left ..)
 have gb : o * g = b.den := by rw [<- ho]; exact Nat.div_mul_cancel (hg ▸ Nat.gcd_dvd_right ..)
 have bE : d ≠ 0 := by
  intro e
  rw [e] at ga
  have := a.den_nz
  omega
 have hn : a.num * b.den + b.num * a.den = up * g := by
  rw [<- ga, <- gb, <- hu, Int.natCast_mul, Int.natCast_mul, Int.add_mul, Int.mul_assoc, Int.mul_assoc]
 have hm : a.den * b.den = d * b.den * g := by rw [<- ga, Nat.mul_right_comm]
 have e : a + b = mkRat up (d * b.den) := by
  rw [Rat.add_def', hn, hm, Rat.mkRat_mul_right bD]
 have bV : d * b.den ≠ 0 := Nat.mul_ne_zero bE b.den_nz
 have bF : h ∣ b.den := Nat.dvd_trans (by rw [<- hh]; exact Nat.gcd_dvd_right ..) (by rw [<- hg]; exact Nat.gcd_dvd_right ..)
 rw [e, Rat.num_mkRat, Rat.den_mkRat, if_neg bV, if_neg bV, Nat.gcd_comm, <- key, hh]
 exact ⟨rfl, Nat.mul_div_assoc _ bF⟩
theorem Jdg (a b : Rat) {g h : Nat} (hg : a.num.natAbs.gcd b.den = g) (hh : b.num.natAbs.gcd a.den = h) :
  (a * b).num = a.num / g * (b.num / h) /\ (a * b).den = a.den / h * (b.den / g) := by
 subst hg hh
 have e : a * b = Rat.mul a b := rfl
 rw [e]
 delta Rat.mul
 simp only [Int.divExact_eq_ediv, Nat.divExact_eq_div]
 exact ⟨trivial, trivial⟩
theorem Vl (a : Rat) (h : a.den = 1) : a = (a.num : Rat) := by
 apply Rat.ext
 ·rfl
 exact h
theorem Jdh (a b : Rat) (ha : a.den = 1) (hb : b.den = 1) : (a + b).num = a.num + b.num /\ (a + b).den = 1 := by
 rw [Vl a ha, Vl b hb, <- Rat.intCast_add]
 exact ⟨rfl, rfl⟩
theorem Jdf (a b : Rat) (ha : a.den = 1) (hb : b.den = 1) : (a * b).num = a.num * b.num /\ (a * b).den = 1 := by
 rw [Vl a ha, Vl b hb, <- Rat.intCast_mul]
 exact ⟨rfl, rfl⟩
def Jc2 (a b : Rat) : Int := if a < b then -1 else if b < a then 1 else 0
theorem Jac (a b : Rat) : Uk (a.num * b.den) (b.num * a.den) = Jc2 a b := by
 unfold Uk Jc2
 simp only [Rat.lt_iff]
theorem Jim (a b : Rat) (ha : a.den = 1) (hb : b.den = 1) : Uk a.num b.num = Jc2 a b := by
 rw [<- Jac, ha, hb]
 simp
theorem Jin (a b : Rat) (h : a.num.sign ≠ b.num.sign) : Uk a.num b.num = Jc2 a b := by
 rw [<- Jac]
 have aV : (0 : Int) < a.den := by have := a.den_pos; omega
 have bV : (0 : Int) < b.den := by have := b.den_pos; omega
 generalize a.num = x at *
 generalize b.num = y at *
 generalize (a.den : Int) = p at *
 generalize (b.den : Int) = q at *
 have key : (x < 0 /\ 0 <= y) \/ (x = 0 /\ y ≠ 0) \/ (0 < x /\ y <= 0) := by
  rcases Int.lt_trichotomy x 0 with hx | hx | hx
  ·rcases Int.lt_trichotomy y 0 with hy | hy | hy
   ·rw [Int.sign_eq_neg_one_of_neg hx, Int.sign_eq_neg_one_of_neg hy] at h
    exact absurd rfl h
   ·omega
   omega
  ·rcases Int.lt_trichotomy y 0 with hy | hy | hy
   ·omega
   ·subst hx hy
    exact absurd rfl h
   omega
  rcases Int.lt_trichotomy y 0 with hy | hy | hy
  ·omega
  ·omega
  rw [Int.sign_eq_one_of_pos hx, Int.sign_eq_one_of_pos hy] at h
  exact absurd rfl h
 unfold Uk
 rcases key with ⟨hx, hy⟩ | ⟨hx, hy⟩ | ⟨hx, hy⟩
 ·have h1 : x * q < 0 := Int.mul_neg_of_neg_of_pos hx bV
  have h2 : 0 <= y * p := Int.mul_nonneg hy (by omega)
  rw [if_pos (by omega), if_pos (by omega)]
 ·subst hx
  rw [Int.zero_mul]
  rcases Int.lt_trichotomy y 0 with aB | aB | aB
  ·have h1 : y * p < 0 := Int.mul_neg_of_neg_of_pos aB aV
   rw [if_neg (by omega), if_pos (by omega), if_neg (by omega), if_pos (by omega)]
  ·omega
  have h1 : 0 < y * p := Int.mul_pos aB aV
  rw [if_pos (by omega), if_pos (by omega)]
 have h1 : 0 < x * q := Int.mul_pos hx bV
 have h2 : y * p <= 0 := Int.mul_nonpos_of_nonpos_of_nonneg hy (by omega)
 rw [if_neg (by omega), if_pos (by omega), if_neg (by omega), if_pos (by omega)]
theorem Yj (a b : Nat) : Je (a / b) <= Je a := Qc (Nat.div_le_self _ _)
theorem Jgu {z : Int} {b : Nat} (h : b ∣ z.natAbs) : (z / (b : Int)).natAbs = z.natAbs / b := by
 rw [Int.natAbs_ediv_of_dvd (Int.ofNat_dvd_left.2 h), Int.natAbs_natCast]
theorem Jbk {z : Int} {b : Nat} (h : b ∣ z.natAbs) : Je (z / (b : Int)).natAbs <= Je z.natAbs := by
 rw [Jgu h]
 exact Yj _ _
theorem Jeq (a b : Int) : Je (a + b).natAbs <= max (Je a.natAbs) (Je b.natAbs) + 1 :=
 nt (Qc (Int.natAbs_add_le a b)) (Jhf _ _)
theorem Zy (a b : Int) : Je (a * b).natAbs <= Je a.natAbs + Je b.natAbs := by
 rw [Int.natAbs_mul]
 exact Jav _ _
theorem Jcs (n : Int) (d k : Nat) (hd : d ≠ 0) (h1 : Je n.natAbs <= k) (h2 : Je d <= k) : QS k (mkRat n d) := by
 unfold QS
 rw [Rat.num_mkRat, Rat.den_mkRat, if_neg hd, if_neg hd]
 exact ⟨nt (Jbk (Nat.gcd_dvd_right ..)) h1, nt (Yj _ _) h2⟩
theorem QS.add {m n : Nat} {a b : Rat} (ha : QS m a) (hb : QS n b) : QS (m + n + 1) (a + b) := by
 rw [Rat.add_def']
 have h1 := Jeq (a.num * b.den) (b.num * a.den)
 have h2 := Zy a.num b.den
 have h3 := Zy b.num a.den
 have h4 := Jav a.den b.den
 rw [Int.natAbs_natCast] at h2 h3
 obtain ⟨aS, aT⟩ := ha
 obtain ⟨s9, bG⟩ := hb
 refine Jcs _ _ _ (Nat.mul_ne_zero a.den_nz b.den_nz) ?_ ?_ <;> omega
theorem QS.mul {m n : Nat} {a b : Rat} (ha : QS m a) (hb : QS n b) : QS (m + n) (a * b) := by
 rw [Rat.mul_def']
 have h2 := Zy a.num b.num
 have h4 := Jav a.den b.den
 obtain ⟨aS, aT⟩ := ha
 obtain ⟨s9, bG⟩ := hb
 refine Jcs _ _ _ (Nat.mul_ne_zero a.den_nz b.den_nz) ?_ ?_ <;> omega
theorem QS.neg {m : Nat} {a : Rat} (ha : QS m a) : QS m (-a) := by
 unfold QS
 rw [Rat.neg_num, Rat.neg_den, Int.natAbs_neg]
 exact ha
theorem QS.inv {m : Nat} {a : Rat} (ha : QS m a) (hm : 1 <= m) : QS m a⁻¹ := by
 unfold QS
 rw [Rat.num_inv, Rat.den_inv, Int.natAbs_mul, Int.natAbs_natCast]
 obtain ⟨aS, aT⟩ := ha
 constructor
 ·refine nt (Qc ?_) aT
  rcases Int.lt_trichotomy a.num 0 with h | h | h
  ·rw [Int.sign_eq_neg_one_of_neg h]; simp
  ·rw [h]; simp
  rw [Int.sign_eq_one_of_pos h]; simp
 split
 ·exact hm
 exact aS
