import Derived.Test.YtacbcaebaomglaaGreatDoorNatC
import Derived.RegionTactic
import Derived.BigRegion
namespace Go.Proofs.YtacbcaebaomglaaGreatDoor
set_option maxRecDepth 100000
set_option maxHeartbeats 1000000
open Go.RowKit
set_option linter.all false
theorem Uw (r : Nat) (h : r <= 64) : (18446744073709551616 : Nat) = 2 ^ r * 2 ^ (64 - r) := by rw [<- Nat.pow_add, show r + (64 - r) = 64 from by omega]
theorem Jhy (y x r : Nat) (hy : y < 2 ^ r) (hr : r < 64) : bits .or .u64 (y : Int) (IntKind.u64.wrap ((x : Int) * 2 ^ r)) = ((y + x * 2 ^ r % 18446744073709551616 : Nat) : Int) /\ y + x * 2 ^ r % 18446744073709551616 < 18446744073709551616 := by
 have hs := Uw r (by omega)
 have hp : 0 < 2 ^ r := Nat.pow_pos (by omega)
 have e1 : x * 2 ^ r % 18446744073709551616 = 2 ^ r * (x % 2 ^ (64 - r)) := by
  conv => lhs; rw [hs, Nat.mul_comm x, Nat.mul_mod_mul_left]
 have u4 : x % 2 ^ (64 - r) < 2 ^ (64 - r) := Nat.mod_lt _ (Nat.pow_pos (by omega))
 have h2 : 2 ^ r * (x % 2 ^ (64 - r)) + 2 ^ r <= 2 ^ r * 2 ^ (64 - r) := by
  rw [<- Nat.mul_succ]
  exact Nat.mul_le_mul_left _ u4
 rw [<- hs] at h2
 have aG : x * 2 ^ r % 18446744073709551616 < 18446744073709551616 := Nat.mod_lt _ (by omega)
 have bI : y < 18446744073709551616 := by omega
 refine ⟨?_, by rw [e1]; omega⟩
 rw [show (x : Int) * 2 ^ r = ((x * 2 ^ r : Nat) : Int) from by rw [Int.natCast_mul, Int.natCast_pow]; rfl, Jg, Jab _ _ bI aG, e1, Nat.add_comm y, Nat.two_pow_add_eq_or_of_lt hy, Nat.or_comm]
theorem Jhi (x r P : Nat) : x * 2 ^ r % 18446744073709551616 * P + x * 2 ^ r / 18446744073709551616 * (P * 18446744073709551616) = x * 2 ^ r * P := by
 have h := Nat.div_add_mod (x * 2 ^ r) 18446744073709551616
 generalize x * 2 ^ r = z at *
 conv => rhs; rw [<- h]
 rw [Nat.add_mul, Nat.mul_comm (18446744073709551616 * _) P, <- Nat.mul_assoc P, Nat.mul_comm (z / _) (P * _), Nat.add_comm]
theorem Jac (A : Option Addr) (p c B n : Nat) (lX : List Nat) (w : World) (hX : Reads w B 1 A p (lX.map Jk)) (hB : B <= w.heap.size) (hd : Dig 18446744073709551616 lX) (hp : p <= 8796093022208) (hn : n <= 1099511627776) :
  Calls Tryz.prog 175 #[.slice A p c, .int .i64 (n : Int)] w (Jor w (dv 18446744073709551616 lX * 2 ^ n) (p + n / 64 + 1)) := by
 have hlx := hX.lenf
 obtain ⟨h, hh⟩ : ∃ h, n / 64 = h := ⟨_, rfl⟩
 obtain ⟨r, hr⟩ : ∃ r, n % 64 = r := ⟨_, rfl⟩
 have s9 : n = 64 * h + r := by omega
 have o6 : r < 64 := by omega
 have j9 : (2 : Nat) ^ n = 18446744073709551616 ^ h * 2 ^ r := by rw [s9, Nat.pow_add, Nat.pow_mul]
 have c1 : (n : Int) / 64 = (h : Int) := by omega
 have c2 : (n : Int) % 64 = (r : Int) := by omega
 obtain ⟨L, hL⟩ : ∃ L, p + h + 1 = L := ⟨_, rfl⟩
 have c3 : (p : Int) + (h : Int) + 1 = (L : Int) := by omega
 have cB : h <= 17179869184 := by omega
 rw [hh, hL]
 have aH := Qf (P := Tryz.prog) Jk 0 178 59 8 Tryz.underlying178 Tryz.infoU64 rfl .i64 .i64 L (by omega) (by omega)
 have HL := lh (And.intro hlx (And.intro hL (And.intro j9 s9)))
 have bJ : IntKind.u64.wrap (r : Int) = (r : Int) := Jd _ (by omega) (by omega)
 clear hlx hh hr j9 hL s9
 go_enter Tryz.func175, Tryz.ntmps175
 go_wp2_with fail
 clear aH c1 c2 c3
 have j7 := Row.rep w 59 Jk 0 L
 have o7 := Jb w (.cells (Array.replicate L (Jk 0)) 59)
 obtain ⟨g, hg⟩ : ∃ g, w.heap.size = g := ⟨_, rfl⟩
 have HG := lh hg
 rw [hg] at j7
 rw [hg]
 have p8 : w.heap.size <= g := by omega
 clear hg
 go_loopw [8, 9, 23] (fun _ _ i wr => ∃ k : Nat, k <= p /\ i = .int .i64 k /\ Jbn w g L (dv 18446744073709551616 (lX.take k) * 2 ^ n) wr) (fun _ _ i _ => p - (intOf i).toNat)
 case atStart => exact ⟨0, Nat.zero_le _, rfl, _, by simp, j7, Dig.rep (by omega) _, by rw [Kk]; simp [dv], o7⟩
 case round =>
  obtain ⟨i, hi, rfl, l, hl, j8, o8, hv, hb⟩ := hrel
  clear j7 o7
  by_cases u4 : i < p
  ·have x7 := hX.below (hb.mono hB)
   obtain ⟨ad, x, hA, bK, hx, aI⟩ := x7.atf u4
   have aB := hd.get hx
   have bA := Js (β := 18446744073709551616) hx
   obtain ⟨k, hk⟩ : ∃ k, i + h = k := ⟨_, rfl⟩
   have cC : k + 1 < L := by have := HL.out.2.1; omega
   have p9 : dv 18446744073709551616 l < 18446744073709551616 ^ k * 2 ^ r := by
    rw [hv, HL.out.2.2.1, <- Nat.mul_assoc]
    have h1 := Xm (hd.take i)
    rw [List.length_take, HL.out.1, Nat.min_eq_left (by omega)] at h1
    refine Nat.mul_lt_mul_of_pos_right ?_ (Nat.pow_pos (by omega))
    rw [<- hk, Nat.pow_add]
    exact Nat.mul_lt_mul_of_pos_right h1 (Nat.pow_pos (by omega))
   obtain ⟨y, hy⟩ : ∃ y, l[k]? = some y := ⟨_, List.getElem?_eq_getElem (by omega)⟩
   obtain ⟨y1, aC⟩ : ∃ y1, l[k + 1]? = some y1 := ⟨_, List.getElem?_eq_getElem (by omega)⟩
   have bB : y < 2 ^ r := by
    have h1 := Jfw (β := 18446744073709551616) hy
    have h2 : y * 18446744073709551616 ^ k < 2 ^ r * 18446744073709551616 ^ k := by rw [Nat.mul_comm (2 ^ r)]; omega
    exact Nat.lt_of_mul_lt_mul_right h2
   have aJ : y1 = 0 := by
    have h1 : dv 18446744073709551616 (l.drop (k + 1)) = 0 := by
     apply Km o8 (by omega)
     rw [Nat.pow_succ]
     refine Nat.lt_of_lt_of_le p9 (Nat.mul_le_mul_left _ ?_)
     exact Nat.pow_le_pow_right (by omega) (show r <= 64 by omega)
    exact Ja2 (by omega) h1 (k := 0) (by rw [List.getElem?_drop]; exact aC)
   subst aJ
   obtain ⟨aK, o9⟩ := Jhy y x r bB o6
   obtain ⟨z, hz⟩ : ∃ z, y + x * 2 ^ r % 18446744073709551616 = z := ⟨_, rfl⟩
   obtain ⟨u, hu⟩ : ∃ u, x * 2 ^ r / 18446744073709551616 = u := ⟨_, rfl⟩
   rw [hz] at aK o9
   have q8 : u < 18446744073709551616 := by
    rw [<- hu, Nat.div_lt_iff_lt_mul (by omega)]
    exact Nat.mul_lt_mul'' aB (Nat.pow_lt_pow_right (by omega) (show r < 64 by omega))
   have aL : (x : Int) / 2 ^ (64 - r) = (u : Int) := by
    rw [<- hu]
    have hs := Uw r (by omega)
    have e : x * 2 ^ r / 18446744073709551616 = x / 2 ^ (64 - r) := by
     conv => lhs; rw [hs, Nat.mul_comm x, Nat.mul_div_mul_left _ _ (Nat.pow_pos (by omega))]
    rw [e, Int.natCast_ediv, Int.natCast_pow]
    rfl
   have aM := j8.cell hy
   have bL := j8.frozen k
   have bM := j8.frozen (k + 1)
   have p7 := j8.cell aC
   have e8 := j8.set_ k z
   have t7 : (l.set k z)[k + 1]? = some 0 := by rw [List.getElem?_set_ne (by omega)]; exact aC
   have aN := e8.cell t7
   have bN := e8.frozen (k + 1)
   have o0 := e8.set_ (k + 1) u
   have e9 : dv 18446744073709551616 ((l.set k z).set (k + 1) u) = dv 18446744073709551616 (lX.take (i + 1)) * 2 ^ n := by
    have h1 := Yx (β := 18446744073709551616) z hy
    have h2 := Yx (β := 18446744073709551616) u t7
    have h3 := Jhi x r (18446744073709551616 ^ k)
    rw [hu] at h3
    have bO : z * 18446744073709551616 ^ k = y * 18446744073709551616 ^ k + x * 2 ^ r % 18446744073709551616 * 18446744073709551616 ^ k := by rw [<- hz, Nat.add_mul]
    rw [bO, hv] at h1
    rw [Nat.pow_succ] at h2
    rw [bA, Nat.add_mul]
    have h4 : x * 18446744073709551616 ^ i * 2 ^ n = x * 2 ^ r * 18446744073709551616 ^ k := by
     rw [HL.out.2.2.1, <- hk, Nat.pow_add, Nat.mul_assoc, Nat.mul_assoc, Nat.mul_comm (2 ^ r), Nat.mul_assoc]
    omega
   have j0 : Jbn w g L (dv 18446744073709551616 (lX.take (i + 1)) * 2 ^ n) ((wr.setCell ⟨g, k, none⟩ (Jk z)).setCell ⟨g, k + 1, none⟩ (Jk u)) :=
    ⟨_, by rw [List.length_set, List.length_set]; exact hl, o0, (o8.set_ k o9).set_ (k + 1) q8, e9, (hb.setCell p8 _).setCell p8 _⟩
   have HFIN := lh j0
   have k1 : ((i : Int) + (h : Int)) = (k : Int) := by omega
   have k2 : (k : Int) + 1 < (L : Int) := by omega
   have k3 : (k : Int) < (L : Int) := by omega
   have k4 : (i : Int) < (p : Int) := by omega
   have k5 : (64 : Int) - (r : Int) = ((64 - r : Nat) : Int) := by omega
   have k6 : IntKind.u64.wrap (64 - (r : Int)) = ((64 - r : Nat) : Int) := by rw [Jd _ (by omega) (by omega)]; omega
   have k7 : (r : Int) <= 63 := by omega
   have k8 : ((k : Int) + 1).toNat = k + 1 := by omega
   unfold Jk at aI aM aN p7
   clear hz hu hx bA p9 hy aC t7 e8 o0 e9 j0 hv hl o8 hb x7 k5 bB
   subst hA
   go_wp2
   exact ⟨⟨i + 1, by omega, by go_num, HFIN.out⟩, by simp [intOf]; omega⟩
  obtain rfl : i = p := by omega
  rw [List.take_of_length_le (by rw [HL.out.1]; omega)] at hv
  go_wp2
  go_ret
  exact ⟨g, l, rfl, hl, j8, o8, hv, hb, p8⟩
theorem Ub {l : List Nat} {k r x y R : Nat} (hr : r < 64) (hx : x < 18446744073709551616) (t8 : dv 18446744073709551616 (l.drop k) = x + 18446744073709551616 * (y + 18446744073709551616 * R)) :
  dv 18446744073709551616 (l.drop k) / 2 ^ r % 18446744073709551616 = x / 2 ^ r + y * 2 ^ (64 - r) % 18446744073709551616 /\ x / 2 ^ r < 2 ^ (64 - r) := by
 have hs := Uw r (by omega)
 have hp : 0 < 2 ^ r := Nat.pow_pos (by omega)
 have hq : 0 < 2 ^ (64 - r) := Nat.pow_pos (by omega)
 have bP : x / 2 ^ r < 2 ^ (64 - r) := by
  rw [Nat.div_lt_iff_lt_mul hp, Nat.mul_comm, <- hs]
  exact hx
 refine ⟨?_, bP⟩
 rw [t8]
 have e1 : x + 18446744073709551616 * (y + 18446744073709551616 * R) = x + 2 ^ r * (2 ^ (64 - r) * (y + 18446744073709551616 * R)) := by
  rw [<- Nat.mul_assoc, <- hs]
 rw [e1, Nat.add_mul_div_left _ _ hp]
 have e2 : x / 2 ^ r + 2 ^ (64 - r) * (y + 18446744073709551616 * R) = x / 2 ^ r + y * 2 ^ (64 - r) + 18446744073709551616 * (2 ^ (64 - r) * R) := by
  rw [Nat.mul_add, Nat.mul_comm y, Nat.mul_left_comm (2 ^ (64 - r))]
  omega
 rw [e2, Nat.add_mul_mod_self_left]
 have e3 : y * 2 ^ (64 - r) % 18446744073709551616 = 2 ^ (64 - r) * (y % 2 ^ r) := by
  conv => lhs; rw [hs, Nat.mul_comm (2 ^ r), Nat.mul_comm y, Nat.mul_mod_mul_left]
 have u4 : y % 2 ^ r < 2 ^ r := Nat.mod_lt _ hp
 have h2 : 2 ^ (64 - r) * (y % 2 ^ r) + 2 ^ (64 - r) <= 2 ^ (64 - r) * 2 ^ r := by
  rw [<- Nat.mul_succ]
  exact Nat.mul_le_mul_left _ u4
 rw [Nat.mul_comm (2 ^ (64 - r)) (2 ^ r), <- hs] at h2
 rw [Nat.add_mod, Nat.mod_eq_of_lt (show x / 2 ^ r < 18446744073709551616 by omega), Nat.mod_eq_of_lt (by rw [e3]; omega)]
theorem Jdt (u y r : Nat) (hu : u < 2 ^ (64 - r)) (hr : r < 64) : bits .or .u64 (u : Int) (IntKind.u64.wrap ((y : Int) * 2 ^ (64 - r))) = ((u + y * 2 ^ (64 - r) % 18446744073709551616 : Nat) : Int) /\ u + y * 2 ^ (64 - r) % 18446744073709551616 < 18446744073709551616 := by
 by_cases h0 : r = 0
 ·subst h0
  rw [Nat.sub_zero] at *
  have e : y * 2 ^ 64 % 18446744073709551616 = 0 := by rw [show (2 : Nat) ^ 64 = 18446744073709551616 from rfl, Nat.mul_mod_left]
  rw [show (y : Int) * 2 ^ 64 = ((y * 2 ^ 64 : Nat) : Int) from by rw [Int.natCast_mul, Int.natCast_pow]; rfl, Jg, e, Jab _ _ (by omega) (by omega), Nat.or_zero, Nat.add_zero]
  exact ⟨rfl, by omega⟩
 exact Jhy u y (64 - r) hu (by omega)
theorem Jev (A : Option Addr) (p c B n : Nat) (lX : List Nat) (w : World) (hX : Reads w B 1 A p (lX.map Jk)) (hB : B <= w.heap.size) (hd : Dig 18446744073709551616 lX) (hp : p <= 8796093022208) (hn : n <= 1099511627776) (bQ : n / 64 < p) :
  Calls Tryz.prog 174 #[.slice A p c, .int .i64 (n : Int)] w (Jor w (dv 18446744073709551616 lX / 2 ^ n) (p - n / 64)) := by
 have hlx := hX.lenf
 obtain ⟨h, hh⟩ : ∃ h, n / 64 = h := ⟨_, rfl⟩
 obtain ⟨r, hr⟩ : ∃ r, n % 64 = r := ⟨_, rfl⟩
 have s9 : n = 64 * h + r := by omega
 have o6 : r < 64 := by omega
 have j9 : (2 : Nat) ^ n = 18446744073709551616 ^ h * 2 ^ r := by rw [s9, Nat.pow_add, Nat.pow_mul]
 have c1 : (n : Int) / 64 = (h : Int) := by omega
 have c2 : (n : Int) % 64 = (r : Int) := by omega
 rw [hh] at bQ
 obtain ⟨L, hL⟩ : ∃ L, p - h = L := ⟨_, rfl⟩
 have c3 : (p : Int) - (h : Int) = (L : Int) := by omega
 have c4 : ¬ (p : Int) <= (h : Int) := by omega
 rw [hh, hL]
 have aH := Qf (P := Tryz.prog) Jk 0 178 59 8 Tryz.underlying178 Tryz.infoU64 rfl .i64 .i64 L (by omega) (by omega)
 obtain ⟨M, hM⟩ : ∃ M, dv 18446744073709551616 lX / 2 ^ n = M := ⟨_, rfl⟩
 rw [hM]
 have bR : M < 18446744073709551616 ^ L := by
  rw [<- hM, j9, <- Nat.div_div_eq_div_mul, Yr hd (by omega)]
  have h1 := Xm (hd.drop h)
  rw [List.length_drop, hlx, hL] at h1
  exact Nat.lt_of_le_of_lt (Nat.div_le_self _ _) h1
 have HL := lh (And.intro hlx (And.intro hL (And.intro j9 (And.intro s9 hM))))
 have bJ : IntKind.u64.wrap (r : Int) = (r : Int) := Jd _ (by omega) (by omega)
 have cD : L <= p := by omega
 have bC : p = L + h := by omega
 clear hlx hh hr j9 hL s9 hM
 go_enter Tryz.func174, Tryz.ntmps174
 have HPL := lh bC
 clear bC
 go_wp2_with fail
 clear aH c1 c2 c3 c4
 have j7 := Row.rep w 59 Jk 0 L
 have o7 := Jb w (.cells (Array.replicate L (Jk 0)) 59)
 obtain ⟨g, hg⟩ : ∃ g, w.heap.size = g := ⟨_, rfl⟩
 have HG := lh hg
 rw [hg] at j7
 rw [hg]
 have p8 : w.heap.size <= g := by omega
 clear hg
 go_loopw [8, 25] (fun _ i wr => ∃ k : Nat, k <= L /\ i = .int .i64 k /\ Jbn w g L (M % 18446744073709551616 ^ k) wr) (fun _ i _ => L - (intOf i).toNat)
 case atStart => exact ⟨0, Nat.zero_le _, rfl, _, by simp, j7, Dig.rep (by omega) _, by rw [Kk]; simp [Nat.mod_one], o7⟩
 case round =>
  obtain ⟨i, hi, rfl, l, hl, j8, o8, hv, hb⟩ := hrel
  clear j7 o7
  by_cases u4 : i < L
  ·have x7 := hX.below (hb.mono hB)
   obtain ⟨k, hk⟩ : ∃ k, i + h = k := ⟨_, rfl⟩
   have bS : k < p := by have := HPL.out; omega
   obtain ⟨ad, x, hA, bK, hx, aI⟩ := x7.atf bS
   have aB := hd.get hx
   obtain ⟨v0, x8⟩ : ∃ v0, l[i]? = some v0 := ⟨_, List.getElem?_eq_getElem (by omega)⟩
   have aO : v0 = 0 := by
    have h1 : dv 18446744073709551616 (l.drop i) = 0 := by
     apply Km o8 (by omega)
     rw [hv]
     exact Nat.mod_lt _ (Nat.pow_pos (by omega))
    exact Ja2 (by omega) h1 (k := 0) (by rw [List.getElem?_drop]; exact x8)
   subst aO
   have aD : M / 18446744073709551616 ^ i = dv 18446744073709551616 (lX.drop k) / 2 ^ r := by
    rw [<- HL.out.2.2.2.2, HL.out.2.2.1, Nat.div_div_eq_div_mul, <- hk, <- Yr hd (by omega), Nat.div_div_eq_div_mul, Nat.pow_add]
    congr 1
    rw [Nat.mul_comm (18446744073709551616 ^ h), Nat.mul_assoc, Nat.mul_comm (2 ^ r), Nat.mul_comm (18446744073709551616 ^ h)]
   have cE : ((i : Int) + (h : Int)) = (k : Int) := by omega
   have aM := j8.cell x8
   have bL := j8.frozen i
   obtain ⟨u, hu⟩ : ∃ u, x / 2 ^ r = u := ⟨_, rfl⟩
   have aL : (x : Int) / 2 ^ r = (u : Int) := by
    rw [<- hu, Int.natCast_ediv, Int.natCast_pow]
    rfl
   have k3 : (k : Int) < (p : Int) := by omega
   have k4 : (i : Int) < (L : Int) := by omega
   have k7 : (r : Int) <= 63 := by omega
   have k9 : (64 : Int) - (r : Int) = ((64 - r : Nat) : Int) := by omega
   have k6 : IntKind.u64.wrap (64 - (r : Int)) = ((64 - r : Nat) : Int) := by rw [Jd _ (by omega) (by omega)]; omega
   unfold Jk at aI aM
   clear k9
   subst hA
   by_cases aP : k + 1 < p
   ·obtain ⟨ad2, y, aQ, bT, hy, p7⟩ := x7.atf aP
    injection aQ with aQ
    subst aQ
    have t8 : dv 18446744073709551616 (lX.drop k) = x + 18446744073709551616 * (y + 18446744073709551616 * dv 18446744073709551616 (lX.drop (k + 1 + 1))) := by
     rw [Qb hx, Qb hy]
    obtain ⟨j6, q8⟩ := Ub o6 aB t8
    rw [hu] at j6 q8
    obtain ⟨aK, o9⟩ := Jdt u y r q8 o6
    obtain ⟨z, hz⟩ : ∃ z, u + y * 2 ^ (64 - r) % 18446744073709551616 = z := ⟨_, rfl⟩
    rw [hz] at aK o9 j6
    have e9 : dv 18446744073709551616 (l.set i z) = M % 18446744073709551616 ^ (i + 1) := by
     have h1 := Yx (β := 18446744073709551616) z x8
     rw [Nat.mod_pow_succ, aD, j6, <- hv]
     rw [Nat.mul_comm (18446744073709551616 ^ i)]
     omega
    have x9 : u < 18446744073709551616 := by
     have := Nat.pow_le_pow_right (show 0 < 2 by omega) (show 64 - r <= 64 by omega)
     omega
    have e8 := j8.set_ i u
    have o0 := e8.set_ i z
    rw [List.set_set] at o0
    have bD : (l.set i u)[i]? = some u := by rw [List.getElem?_set_self (by omega)]
    have bU := e8.cell bD
    have cF := e8.frozen i
    have y8 : (wr.setCell ⟨g, i, none⟩ (Jk u)).cell? (ad.add (k + 1)) = some (Jk y) := by
     rw [World.cell?_setCell_other _ _ _ _ (fun e => by have h9 := congrArg Addr.block e; rw [Jt] at h9; simp at h9; have := x7.2 (by omega); omega)]
     exact p7
    have aR : (wr.setCell ⟨g, i, none⟩ (Jk u)).cell? ⟨ad.block, ad.off + (k + 1), none⟩ = some (Jk y) := by
     have h9 := y8
     unfold Addr.add at h9
     rw [if_neg (by omega)] at h9
     exact h9
    have j0 : Jbn w g L (M % 18446744073709551616 ^ (i + 1)) (((wr.setCell ⟨g, i, none⟩ (Jk u)).drew).setCell ⟨g, i, none⟩ (Jk z)) :=
     ⟨_, by rw [List.length_set]; exact hl, o0, o8.set_ i o9, e9, Jy ((hb.setCell p8 _).setCell p8 _) 1⟩
    have HFIN := lh j0
    unfold Jk at bU y8 p7 aR
    have k10 : (k : Int) + 1 < (p : Int) := by omega
    have k11 : ((k : Int) + 1).toNat = k + 1 := by omega
    clear j6 q8 hz e9 e8 o0 j0 bD hu x8 hx hy hv hl o8 hb aD t8
    go_wp2_with fail
    go_region
    go_wp2
    exact ⟨⟨i + 1, by omega, by go_num, HFIN.out⟩, by simp [intOf]; omega⟩
   have t8 : dv 18446744073709551616 (lX.drop k) = x + 18446744073709551616 * (0 + 18446744073709551616 * 0) := by
    rw [Qb hx, Xe (by rw [HL.out.1]; omega)]
   obtain ⟨j6, q8⟩ := Ub o6 aB t8
   rw [hu, Nat.zero_mul, Nat.zero_mod, Nat.add_zero] at j6
   rw [hu] at q8
   have x9 : u < 18446744073709551616 := by
    have := Nat.pow_le_pow_right (show 0 < 2 by omega) (show 64 - r <= 64 by omega)
    omega
   have e9 : dv 18446744073709551616 (l.set i u) = M % 18446744073709551616 ^ (i + 1) := by
    have h1 := Yx (β := 18446744073709551616) u x8
    rw [Nat.mod_pow_succ, aD, j6, <- hv]
    rw [Nat.mul_comm (18446744073709551616 ^ i)]
    omega
   have j0 : Jbn w g L (M % 18446744073709551616 ^ (i + 1)) (wr.setCell ⟨g, i, none⟩ (Jk u)) :=
    ⟨_, by rw [List.length_set]; exact hl, j8.set_ i u, o8.set_ i x9, e9, hb.setCell p8 _⟩
   have HFIN := lh j0
   have k10 : ¬ (k : Int) + 1 < (p : Int) := by omega
   clear j6 q8 e9 j0 hu x8 hx hv hl o8 hb aD t8
   go_wp2
   exact ⟨⟨i + 1, by omega, by go_num, HFIN.out⟩, by simp [intOf]; omega⟩
  obtain rfl : i = L := by omega
  rw [Nat.mod_eq_of_lt bR] at hv
  go_wp2
  go_ret
  exact ⟨g, l, rfl, hl, j8, o8, hv, hb, p8⟩
theorem Jgi (a n : Nat) (w : World) (ha : Je a <= 1099511627776) (hn : n <= 65536) : Calls Tryz.prog 141 #[Jh a, .int .i64 (n : Int)] w (Ret (Jh (a * 2 ^ n)) w) := by
 have cG := Qu a ha
 unfold Jh
 obtain ⟨b0, b1, hB, hZ⟩ := bx2 w 61 #[.int .u64 (lo a : Int), .string (mo a)] 61 #[.int .u64 0, .string ⟨#[]⟩]
 have m1 : ¬ (65536 : Int) < (n : Int) := by omega
 have m2 : (-65536 : Int) < (n : Int) := by omega
 have m3 : ¬ (n : Int) < -65536 := by omega
 have m4 : min (n : Int) 65536 = (n : Int) := by omega
 have m5 : max (-65536) (n : Int) = (n : Int) := by omega
 have m6 : (if (65536 : Int) < (n : Int) then (65536 : Int) else (n : Int)) = (n : Int) := by rw [if_neg m1]
 have m7 : (if (65536 : Nat) < n then (65536 : Int) else (n : Int)) = (n : Int) := by rw [if_neg (by omega)]
 have m8 : ¬ (n : Int) < 0 := by omega
 go_enter Tryz.func141, Tryz.ntmps141
 go_wp2_with fail
 clear m4 m5 m6 m7
 generalize ((w.alloc (.cells #[.int .u64 (lo a : Int), .string (mo a)] 61)).alloc (.cells #[.int .u64 0, .string ⟨#[]⟩] 61)) = W at *
 refine (Xz a W (by omega) (by omega)).mono ?_
 rintro e w1 ⟨v1, rfl, aE, aS, bV⟩
 have b1 := b1.below aS b1.lt
 have bW := Ja hB aS
 obtain ⟨A1, c1, bE, cH, cI⟩ := aE.form
 rw [bE] at aE ⊢
 have aT := Own.reads aE
 have bX := Jp a
 have bF := Jm a
 generalize Jf a = l at *
 have HL := lh aT.lenf
 have HV := lh bF
 clear bE aE bV aS bF
 generalize l.length = p at *
 go_wp2_with fail
 refine (Jac A1 p c1 _ n l w1 aT zd bX (by omega) (by omega)).mono ?_
 rintro e w2 ⟨g, l2, rfl, bG, j8, bY, aU, aV, cJ⟩
 have b1 := b1.below aV b1.lt
 have bZ := Ja bW aV
 have aF := j8.reads
 rw [bG] at aF
 obtain ⟨L, hL⟩ : ∃ L, p + n / 64 + 1 = L := ⟨_, rfl⟩
 rw [hL] at aF ⊢
 have cK : L <= 17592186044416 := by omega
 rw [HV.out] at aU
 have HV2 := lh aU
 clear bG hL aU aV
 go_wp2_with fail
 refine (Qe _ L L _ l2 w2 aF j8.lt bY (by omega) zd).mono ?_
 rintro e w3 ⟨rfl, bH⟩
 rw [HV2.out]
 have cA := Ja bZ bH
 (try clear aW aX aY aZ y9 aA); obtain ⟨b1, aW, aX, aY, aZ, y9, aA⟩ := b1.zf2 bH
 clear aF aT
 unfold Jh
 generalize a * 2 ^ n = N at *
 go_wp2
 refine bodyPost_ret (v := .agg #[.int .u64 (lo N : Int), .string (mo N)]) (by simp [results, Tryz.results141, go_sem, y9, aA]) rfl ?_
 exact ⟨rfl, Za cA (by omega) _ _⟩
