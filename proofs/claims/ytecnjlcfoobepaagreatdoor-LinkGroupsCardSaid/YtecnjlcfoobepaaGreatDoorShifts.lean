import Derived.Test.YtecnjlcfoobepaaGreatDoorNatC
import Derived.RegionTactic
import Derived.BigRegion
namespace Go.Proofs.YtecnjlcfoobepaaGreatDoor
set_option maxRecDepth 100000
set_option maxHeartbeats 1000000
open Go.RowKit
set_option linter.all false
theorem Vc (r : Nat) (h : r <= 64) : (18446744073709551616 : Nat) = 2 ^ r * 2 ^ (64 - r) := by rw [<- Nat.pow_add, show r + (64 - r) = 64 from by omega]
theorem Ji1 (y x r : Nat) (hy : y < 2 ^ r) (hr : r < 64) : bits .or .u64 (y : Int) (IntKind.u64.wrap ((x : Int) * 2 ^ r)) = ((y + x * 2 ^ r % 18446744073709551616 : Nat) : Int) /\ y + x * 2 ^ r % 18446744073709551616 < 18446744073709551616 := by
 have hs := Vc r (by omega)
 have hp : 0 < 2 ^ r := Nat.pow_pos (by omega)
 have e1 : x * 2 ^ r % 18446744073709551616 = 2 ^ r * (x % 2 ^ (64 - r)) := by
  conv => lhs; rw [hs, Nat.mul_comm x, Nat.mul_mod_mul_left]
 have aG : x % 2 ^ (64 - r) < 2 ^ (64 - r) := Nat.mod_lt _ (Nat.pow_pos (by omega))
 have h2 : 2 ^ r * (x % 2 ^ (64 - r)) + 2 ^ r <= 2 ^ r * 2 ^ (64 - r) := by
  rw [<- Nat.mul_succ]
  exact Nat.mul_le_mul_left _ aG
 rw [<- hs] at h2
 have aT : x * 2 ^ r % 18446744073709551616 < 18446744073709551616 := Nat.mod_lt _ (by omega)
 have bV : y < 18446744073709551616 := by omega
 refine ⟨?_, by rw [e1]; omega⟩
 rw [show (x : Int) * 2 ^ r = ((x * 2 ^ r : Nat) : Int) from by rw [Int.natCast_mul, Int.natCast_pow]; rfl, Ji, Jan _ _ bV aT, e1, Nat.add_comm y, Nat.two_pow_add_eq_or_of_lt hy, Nat.or_comm]
theorem Jin (x r P : Nat) : x * 2 ^ r % 18446744073709551616 * P + x * 2 ^ r / 18446744073709551616 * (P * 18446744073709551616) = x * 2 ^ r * P := by
 have h := Nat.div_add_mod (x * 2 ^ r) 18446744073709551616
 generalize x * 2 ^ r = z at *
 conv => rhs; rw [<- h]
 rw [Nat.add_mul, Nat.mul_comm (18446744073709551616 * _) P, <- Nat.mul_assoc P, Nat.mul_comm (z / _) (P * _), Nat.add_comm]
theorem Jao (A : Option Addr) (p c B n : Nat) (lX : List Nat) (w : World) (hX : Reads w B 1 A p (lX.map Jm)) (hB : B <= w.heap.size) (hd : Dig 18446744073709551616 lX) (hp : p <= 8796093022208) (hn : n <= 1099511627776) :
  Calls Tryz.prog 164 #[.slice A p c, .int .i64 (n : Int)] w (Js0 w (dv 18446744073709551616 lX * 2 ^ n) (p + n / 64 + 1)) := by
 have aH := hX.lenf
 obtain ⟨h, hh⟩ : ∃ h, n / 64 = h := ⟨_, rfl⟩
 obtain ⟨r, hr⟩ : ∃ r, n % 64 = r := ⟨_, rfl⟩
 have aD : n = 64 * h + r := by omega
 have t8 : r < 64 := by omega
 have s9 : (2 : Nat) ^ n = 18446744073709551616 ^ h * 2 ^ r := by rw [aD, Nat.pow_add, Nat.pow_mul]
 have c1 : (n : Int) / 64 = (h : Int) := by omega
 have c2 : (n : Int) % 64 = (r : Int) := by omega
 obtain ⟨L, hL⟩ : ∃ L, p + h + 1 = L := ⟨_, rfl⟩
 have c3 : (p : Int) + (h : Int) + 1 = (L : Int) := by omega
 have cO : h <= 17179869184 := by omega
 rw [hh, hL]
 have aU := Ql (P := Tryz.prog) Jm 0 170 50 8 Tryz.underlying170 Tryz.infoU64 rfl .i64 .i64 L (by omega) (by omega)
 have HL := lh (And.intro aH (And.intro hL (And.intro s9 aD)))
 have bW : IntKind.u64.wrap (r : Int) = (r : Int) := Jd _ (by omega) (by omega)
 clear aH hh hr s9 hL aD
 go_enter Tryz.func164, Tryz.ntmps164
 go_wp2_with fail
 clear aU c1 c2 c3
 have o0 := Row.rep w 50 Jm 0 L
 have x8 := Jb w (.cells (Array.replicate L (Jm 0)) 50)
 obtain ⟨g, hg⟩ : ∃ g, w.heap.size = g := ⟨_, rfl⟩
 have HG := lh hg
 rw [hg] at o0
 rw [hg]
 have aA : w.heap.size <= g := by omega
 clear hg
 go_loopw [8, 9, 23] (fun _ _ i wr => ∃ k : Nat, k <= p /\ i = .int .i64 k /\ Jb5 w g L (dv 18446744073709551616 (lX.take k) * 2 ^ n) wr) (fun _ _ i _ => p - (intOf i).toNat)
 case atStart => exact ⟨0, Nat.zero_le _, rfl, _, by simp, o0, Dig.rep (by omega) _, by rw [Kj]; simp [dv], x8⟩
 case round =>
  obtain ⟨i, hi, rfl, l, hl, o5, x9, hv, hb⟩ := hrel
  clear o0 x8
  by_cases aG : i < p
  ·have aI := hX.below (hb.mono hB)
   obtain ⟨ad, x, hA, bX, hx, aV⟩ := aI.atf aG
   have aO := hd.get hx
   have bN := Jv (β := 18446744073709551616) hx
   obtain ⟨k, hk⟩ : ∃ k, i + h = k := ⟨_, rfl⟩
   have cP : k + 1 < L := by have := HL.out.2.1; omega
   have aB : dv 18446744073709551616 l < 18446744073709551616 ^ k * 2 ^ r := by
    rw [hv, HL.out.2.2.1, <- Nat.mul_assoc]
    have h1 := Xn (hd.take i)
    rw [List.length_take, HL.out.1, Nat.min_eq_left (by omega)] at h1
    refine Nat.mul_lt_mul_of_pos_right ?_ (Nat.pow_pos (by omega))
    rw [<- hk, Nat.pow_add]
    exact Nat.mul_lt_mul_of_pos_right h1 (Nat.pow_pos (by omega))
   obtain ⟨y, hy⟩ : ∃ y, l[k]? = some y := ⟨_, List.getElem?_eq_getElem (by omega)⟩
   obtain ⟨y1, aP⟩ : ∃ y1, l[k + 1]? = some y1 := ⟨_, List.getElem?_eq_getElem (by omega)⟩
   have bO : y < 2 ^ r := by
    have h1 := Jgo (β := 18446744073709551616) hy
    have h2 : y * 18446744073709551616 ^ k < 2 ^ r * 18446744073709551616 ^ k := by rw [Nat.mul_comm (2 ^ r)]; omega
    exact Nat.lt_of_mul_lt_mul_right h2
   have aW : y1 = 0 := by
    have h1 : dv 18446744073709551616 (l.drop (k + 1)) = 0 := by
     apply Km x9 (by omega)
     rw [Nat.pow_succ]
     refine Nat.lt_of_lt_of_le aB (Nat.mul_le_mul_left _ ?_)
     exact Nat.pow_le_pow_right (by omega) (show r <= 64 by omega)
    exact Jbj (by omega) h1 (k := 0) (by rw [List.getElem?_drop]; exact aP)
   subst aW
   obtain ⟨aX, y8⟩ := Ji1 y x r bO t8
   obtain ⟨z, hz⟩ : ∃ z, y + x * 2 ^ r % 18446744073709551616 = z := ⟨_, rfl⟩
   obtain ⟨u, hu⟩ : ∃ u, x * 2 ^ r / 18446744073709551616 = u := ⟨_, rfl⟩
   rw [hz] at aX y8
   have aC : u < 18446744073709551616 := by
    rw [<- hu, Nat.div_lt_iff_lt_mul (by omega)]
    exact Nat.mul_lt_mul'' aO (Nat.pow_lt_pow_right (by omega) (show r < 64 by omega))
   have aY : (x : Int) / 2 ^ (64 - r) = (u : Int) := by
    rw [<- hu]
    have hs := Vc r (by omega)
    have e : x * 2 ^ r / 18446744073709551616 = x / 2 ^ (64 - r) := by
     conv => lhs; rw [hs, Nat.mul_comm x, Nat.mul_div_mul_left _ _ (Nat.pow_pos (by omega))]
    rw [e, Int.natCast_ediv, Int.natCast_pow]
    rfl
   have aZ := o5.cell hy
   have bY := o5.frozen k
   have bZ := o5.frozen (k + 1)
   have y9 := o5.cell aP
   have j6 := o5.set_ k z
   have aE : (l.set k z)[k + 1]? = some 0 := by rw [List.getElem?_set_ne (by omega)]; exact aP
   have bA := j6.cell aE
   have cA := j6.frozen (k + 1)
   have t7 := j6.set_ (k + 1) u
   have j7 : dv 18446744073709551616 ((l.set k z).set (k + 1) u) = dv 18446744073709551616 (lX.take (i + 1)) * 2 ^ n := by
    have h1 := Yv (β := 18446744073709551616) z hy
    have h2 := Yv (β := 18446744073709551616) u aE
    have h3 := Jin x r (18446744073709551616 ^ k)
    rw [hu] at h3
    have cB : z * 18446744073709551616 ^ k = y * 18446744073709551616 ^ k + x * 2 ^ r % 18446744073709551616 * 18446744073709551616 ^ k := by rw [<- hz, Nat.add_mul]
    rw [cB, hv] at h1
    rw [Nat.pow_succ] at h2
    rw [bN, Nat.add_mul]
    have h4 : x * 18446744073709551616 ^ i * 2 ^ n = x * 2 ^ r * 18446744073709551616 ^ k := by
     rw [HL.out.2.2.1, <- hk, Nat.pow_add, Nat.mul_assoc, Nat.mul_assoc, Nat.mul_comm (2 ^ r), Nat.mul_assoc]
    omega
   have j8 : Jb5 w g L (dv 18446744073709551616 (lX.take (i + 1)) * 2 ^ n) ((wr.setCell ⟨g, k, none⟩ (Jm z)).setCell ⟨g, k + 1, none⟩ (Jm u)) :=
    ⟨_, by rw [List.length_set, List.length_set]; exact hl, t7, (x9.set_ k y8).set_ (k + 1) aC, j7, (hb.setCell aA _).setCell aA _⟩
   have HFIN := lh j8
   have k1 : ((i : Int) + (h : Int)) = (k : Int) := by omega
   have k2 : (k : Int) + 1 < (L : Int) := by omega
   have k3 : (k : Int) < (L : Int) := by omega
   have k4 : (i : Int) < (p : Int) := by omega
   have k5 : (64 : Int) - (r : Int) = ((64 - r : Nat) : Int) := by omega
   have k6 : IntKind.u64.wrap (64 - (r : Int)) = ((64 - r : Nat) : Int) := by rw [Jd _ (by omega) (by omega)]; omega
   have k7 : (r : Int) <= 63 := by omega
   have k8 : ((k : Int) + 1).toNat = k + 1 := by omega
   unfold Jm at aV aZ bA y9
   clear hz hu hx bN aB hy aP aE j6 t7 j7 j8 hv hl x9 hb aI k5 bO
   subst hA
   go_wp2
   exact ⟨⟨i + 1, by omega, by go_num, HFIN.out⟩, by simp [intOf]; omega⟩
  obtain rfl : i = p := by omega
  rw [List.take_of_length_le (by rw [HL.out.1]; omega)] at hv
  go_wp2
  go_ret
  exact ⟨g, l, rfl, hl, o5, x9, hv, hb, aA⟩
theorem Uf {l : List Nat} {k r x y R : Nat} (hr : r < 64) (hx : x < 18446744073709551616) (aF : dv 18446744073709551616 (l.drop k) = x + 18446744073709551616 * (y + 18446744073709551616 * R)) :
  dv 18446744073709551616 (l.drop k) / 2 ^ r % 18446744073709551616 = x / 2 ^ r + y * 2 ^ (64 - r) % 18446744073709551616 /\ x / 2 ^ r < 2 ^ (64 - r) := by
 have hs := Vc r (by omega)
 have hp : 0 < 2 ^ r := Nat.pow_pos (by omega)
 have hq : 0 < 2 ^ (64 - r) := Nat.pow_pos (by omega)
 have cC : x / 2 ^ r < 2 ^ (64 - r) := by
  rw [Nat.div_lt_iff_lt_mul hp, Nat.mul_comm, <- hs]
  exact hx
 refine ⟨?_, cC⟩
 rw [aF]
 have e1 : x + 18446744073709551616 * (y + 18446744073709551616 * R) = x + 2 ^ r * (2 ^ (64 - r) * (y + 18446744073709551616 * R)) := by
  rw [<- Nat.mul_assoc, <- hs]
 rw [e1, Nat.add_mul_div_left _ _ hp]
 have e2 : x / 2 ^ r + 2 ^ (64 - r) * (y + 18446744073709551616 * R) = x / 2 ^ r + y * 2 ^ (64 - r) + 18446744073709551616 * (2 ^ (64 - r) * R) := by
  rw [Nat.mul_add, Nat.mul_comm y, Nat.mul_left_comm (2 ^ (64 - r))]
  omega
 rw [e2, Nat.add_mul_mod_self_left]
 have e3 : y * 2 ^ (64 - r) % 18446744073709551616 = 2 ^ (64 - r) * (y % 2 ^ r) := by
  conv => lhs; rw [hs, Nat.mul_comm (2 ^ r), Nat.mul_comm y, Nat.mul_mod_mul_left]
 have aG : y % 2 ^ r < 2 ^ r := Nat.mod_lt _ hp
 have h2 : 2 ^ (64 - r) * (y % 2 ^ r) + 2 ^ (64 - r) <= 2 ^ (64 - r) * 2 ^ r := by
  rw [<- Nat.mul_succ]
  exact Nat.mul_le_mul_left _ aG
 rw [Nat.mul_comm (2 ^ (64 - r)) (2 ^ r), <- hs] at h2
 rw [Nat.add_mod, Nat.mod_eq_of_lt (show x / 2 ^ r < 18446744073709551616 by omega), Nat.mod_eq_of_lt (by rw [e3]; omega)]
theorem Jen (u y r : Nat) (hu : u < 2 ^ (64 - r)) (hr : r < 64) : bits .or .u64 (u : Int) (IntKind.u64.wrap ((y : Int) * 2 ^ (64 - r))) = ((u + y * 2 ^ (64 - r) % 18446744073709551616 : Nat) : Int) /\ u + y * 2 ^ (64 - r) % 18446744073709551616 < 18446744073709551616 := by
 by_cases h0 : r = 0
 ·subst h0
  rw [Nat.sub_zero] at *
  have e : y * 2 ^ 64 % 18446744073709551616 = 0 := by rw [show (2 : Nat) ^ 64 = 18446744073709551616 from rfl, Nat.mul_mod_left]
  rw [show (y : Int) * 2 ^ 64 = ((y * 2 ^ 64 : Nat) : Int) from by rw [Int.natCast_mul, Int.natCast_pow]; rfl, Ji, e, Jan _ _ (by omega) (by omega), Nat.or_zero, Nat.add_zero]
  exact ⟨rfl, by omega⟩
 exact Ji1 u y (64 - r) hu (by omega)
theorem Jft (A : Option Addr) (p c B n : Nat) (lX : List Nat) (w : World) (hX : Reads w B 1 A p (lX.map Jm)) (hB : B <= w.heap.size) (hd : Dig 18446744073709551616 lX) (hp : p <= 8796093022208) (hn : n <= 1099511627776) (cD : n / 64 < p) :
  Calls Tryz.prog 167 #[.slice A p c, .int .i64 (n : Int)] w (Js0 w (dv 18446744073709551616 lX / 2 ^ n) (p - n / 64)) := by
 have aH := hX.lenf
 obtain ⟨h, hh⟩ : ∃ h, n / 64 = h := ⟨_, rfl⟩
 obtain ⟨r, hr⟩ : ∃ r, n % 64 = r := ⟨_, rfl⟩
 have aD : n = 64 * h + r := by omega
 have t8 : r < 64 := by omega
 have s9 : (2 : Nat) ^ n = 18446744073709551616 ^ h * 2 ^ r := by rw [aD, Nat.pow_add, Nat.pow_mul]
 have c1 : (n : Int) / 64 = (h : Int) := by omega
 have c2 : (n : Int) % 64 = (r : Int) := by omega
 rw [hh] at cD
 obtain ⟨L, hL⟩ : ∃ L, p - h = L := ⟨_, rfl⟩
 have c3 : (p : Int) - (h : Int) = (L : Int) := by omega
 have c4 : ¬ (p : Int) <= (h : Int) := by omega
 rw [hh, hL]
 have aU := Ql (P := Tryz.prog) Jm 0 170 50 8 Tryz.underlying170 Tryz.infoU64 rfl .i64 .i64 L (by omega) (by omega)
 obtain ⟨M, hM⟩ : ∃ M, dv 18446744073709551616 lX / 2 ^ n = M := ⟨_, rfl⟩
 rw [hM]
 have cE : M < 18446744073709551616 ^ L := by
  rw [<- hM, s9, <- Nat.div_div_eq_div_mul, Ym hd (by omega)]
  have h1 := Xn (hd.drop h)
  rw [List.length_drop, aH, hL] at h1
  exact Nat.lt_of_le_of_lt (Nat.div_le_self _ _) h1
 have HL := lh (And.intro aH (And.intro hL (And.intro s9 (And.intro aD hM))))
 have bW : IntKind.u64.wrap (r : Int) = (r : Int) := Jd _ (by omega) (by omega)
 have cQ : L <= p := by omega
 have bP : p = L + h := by omega
 clear aH hh hr s9 hL aD hM
 go_enter Tryz.func167, Tryz.ntmps167
 have HPL := lh bP
 clear bP
 go_wp2_with fail
 clear aU c1 c2 c3 c4
 have o0 := Row.rep w 50 Jm 0 L
 have x8 := Jb w (.cells (Array.replicate L (Jm 0)) 50)
 obtain ⟨g, hg⟩ : ∃ g, w.heap.size = g := ⟨_, rfl⟩
 have HG := lh hg
 rw [hg] at o0
 rw [hg]
 have aA : w.heap.size <= g := by omega
 clear hg
 go_loopw [8, 25] (fun _ i wr => ∃ k : Nat, k <= L /\ i = .int .i64 k /\ Jb5 w g L (M % 18446744073709551616 ^ k) wr) (fun _ i _ => L - (intOf i).toNat)
 case atStart => exact ⟨0, Nat.zero_le _, rfl, _, by simp, o0, Dig.rep (by omega) _, by rw [Kj]; simp [Nat.mod_one], x8⟩
 case round =>
  obtain ⟨i, hi, rfl, l, hl, o5, x9, hv, hb⟩ := hrel
  clear o0 x8
  by_cases aG : i < L
  ·have aI := hX.below (hb.mono hB)
   obtain ⟨k, hk⟩ : ∃ k, i + h = k := ⟨_, rfl⟩
   have cF : k < p := by have := HPL.out; omega
   obtain ⟨ad, x, hA, bX, hx, aV⟩ := aI.atf cF
   have aO := hd.get hx
   obtain ⟨v0, aJ⟩ : ∃ v0, l[i]? = some v0 := ⟨_, List.getElem?_eq_getElem (by omega)⟩
   have bB : v0 = 0 := by
    have h1 : dv 18446744073709551616 (l.drop i) = 0 := by
     apply Km x9 (by omega)
     rw [hv]
     exact Nat.mod_lt _ (Nat.pow_pos (by omega))
    exact Jbj (by omega) h1 (k := 0) (by rw [List.getElem?_drop]; exact aJ)
   subst bB
   have aQ : M / 18446744073709551616 ^ i = dv 18446744073709551616 (lX.drop k) / 2 ^ r := by
    rw [<- HL.out.2.2.2.2, HL.out.2.2.1, Nat.div_div_eq_div_mul, <- hk, <- Ym hd (by omega), Nat.div_div_eq_div_mul, Nat.pow_add]
    congr 1
    rw [Nat.mul_comm (18446744073709551616 ^ h), Nat.mul_assoc, Nat.mul_comm (2 ^ r), Nat.mul_comm (18446744073709551616 ^ h)]
   have cR : ((i : Int) + (h : Int)) = (k : Int) := by omega
   have aZ := o5.cell aJ
   have bY := o5.frozen i
   obtain ⟨u, hu⟩ : ∃ u, x / 2 ^ r = u := ⟨_, rfl⟩
   have aY : (x : Int) / 2 ^ r = (u : Int) := by
    rw [<- hu, Int.natCast_ediv, Int.natCast_pow]
    rfl
   have k3 : (k : Int) < (p : Int) := by omega
   have k4 : (i : Int) < (L : Int) := by omega
   have k7 : (r : Int) <= 63 := by omega
   have k9 : (64 : Int) - (r : Int) = ((64 - r : Nat) : Int) := by omega
   have k6 : IntKind.u64.wrap (64 - (r : Int)) = ((64 - r : Nat) : Int) := by rw [Jd _ (by omega) (by omega)]; omega
   unfold Jm at aV aZ
   clear k9
   subst hA
   by_cases bC : k + 1 < p
   ·obtain ⟨ad2, y, bD, cG, hy, y9⟩ := aI.atf bC
    injection bD with bD
    subst bD
    have aF : dv 18446744073709551616 (lX.drop k) = x + 18446744073709551616 * (y + 18446744073709551616 * dv 18446744073709551616 (lX.drop (k + 1 + 1))) := by
     rw [Qd hx, Qd hy]
    obtain ⟨j9, aC⟩ := Uf t8 aO aF
    rw [hu] at j9 aC
    obtain ⟨aX, y8⟩ := Jen u y r aC t8
    obtain ⟨z, hz⟩ : ∃ z, u + y * 2 ^ (64 - r) % 18446744073709551616 = z := ⟨_, rfl⟩
    rw [hz] at aX y8 j9
    have j7 : dv 18446744073709551616 (l.set i z) = M % 18446744073709551616 ^ (i + 1) := by
     have h1 := Yv (β := 18446744073709551616) z aJ
     rw [Nat.mod_pow_succ, aQ, j9, <- hv]
     rw [Nat.mul_comm (18446744073709551616 ^ i)]
     omega
    have aK : u < 18446744073709551616 := by
     have := Nat.pow_le_pow_right (show 0 < 2 by omega) (show 64 - r <= 64 by omega)
     omega
    have j6 := o5.set_ i u
    have t7 := j6.set_ i z
    rw [List.set_set] at t7
    have bQ : (l.set i u)[i]? = some u := by rw [List.getElem?_set_self (by omega)]
    have cH := j6.cell bQ
    have cS := j6.frozen i
    have aL : (wr.setCell ⟨g, i, none⟩ (Jm u)).cell? (ad.add (k + 1)) = some (Jm y) := by
     rw [World.cell?_setCell_other _ _ _ _ (fun e => by have h9 := congrArg Addr.block e; rw [Jw] at h9; simp at h9; have := aI.2 (by omega); omega)]
     exact y9
    have bE : (wr.setCell ⟨g, i, none⟩ (Jm u)).cell? ⟨ad.block, ad.off + (k + 1), none⟩ = some (Jm y) := by
     have h9 := aL
     unfold Addr.add at h9
     rw [if_neg (by omega)] at h9
     exact h9
    have j8 : Jb5 w g L (M % 18446744073709551616 ^ (i + 1)) (((wr.setCell ⟨g, i, none⟩ (Jm u)).drew).setCell ⟨g, i, none⟩ (Jm z)) :=
     ⟨_, by rw [List.length_set]; exact hl, t7, x9.set_ i y8, j7, Jz ((hb.setCell aA _).setCell aA _) 1⟩
    have HFIN := lh j8
    unfold Jm at cH aL y9 bE
    have k10 : (k : Int) + 1 < (p : Int) := by omega
    have k11 : ((k : Int) + 1).toNat = k + 1 := by omega
    clear j9 aC hz j7 j6 t7 j8 bQ hu aJ hx hy hv hl x9 hb aQ aF
    go_wp2_with fail
    go_region
    go_wp2
    exact ⟨⟨i + 1, by omega, by go_num, HFIN.out⟩, by simp [intOf]; omega⟩
   have aF : dv 18446744073709551616 (lX.drop k) = x + 18446744073709551616 * (0 + 18446744073709551616 * 0) := by
    rw [Qd hx, Xg (by rw [HL.out.1]; omega)]
   obtain ⟨j9, aC⟩ := Uf t8 aO aF
   rw [hu, Nat.zero_mul, Nat.zero_mod, Nat.add_zero] at j9
   rw [hu] at aC
   have aK : u < 18446744073709551616 := by
    have := Nat.pow_le_pow_right (show 0 < 2 by omega) (show 64 - r <= 64 by omega)
    omega
   have j7 : dv 18446744073709551616 (l.set i u) = M % 18446744073709551616 ^ (i + 1) := by
    have h1 := Yv (β := 18446744073709551616) u aJ
    rw [Nat.mod_pow_succ, aQ, j9, <- hv]
    rw [Nat.mul_comm (18446744073709551616 ^ i)]
    omega
   have j8 : Jb5 w g L (M % 18446744073709551616 ^ (i + 1)) (wr.setCell ⟨g, i, none⟩ (Jm u)) :=
    ⟨_, by rw [List.length_set]; exact hl, o5.set_ i u, x9.set_ i aK, j7, hb.setCell aA _⟩
   have HFIN := lh j8
   have k10 : ¬ (k : Int) + 1 < (p : Int) := by omega
   clear j9 aC j7 j8 hu aJ hx hv hl x9 hb aQ aF
   go_wp2
   exact ⟨⟨i + 1, by omega, by go_num, HFIN.out⟩, by simp [intOf]; omega⟩
  obtain rfl : i = L := by omega
  rw [Nat.mod_eq_of_lt cE] at hv
  go_wp2
  go_ret
  exact ⟨g, l, rfl, hl, o5, x9, hv, hb, aA⟩
theorem Jhi (a n : Nat) (w : World) (ha : Je a <= 1099511627776) (hn : n <= 65536) : Calls Tryz.prog 150 #[Jj a, .int .i64 (n : Int)] w (Ret (Jj (a * 2 ^ n)) w) := by
 have cT := Qz a ha
 unfold Jj
 obtain ⟨b0, b1, hB, hZ⟩ := bx2 w 52 #[.int .u64 (lo a : Int), .string (mo a)] 52 #[.int .u64 0, .string ⟨#[]⟩]
 have m1 : ¬ (65536 : Int) < (n : Int) := by omega
 have m2 : (-65536 : Int) < (n : Int) := by omega
 have m3 : ¬ (n : Int) < -65536 := by omega
 have m4 : min (n : Int) 65536 = (n : Int) := by omega
 have m5 : max (-65536) (n : Int) = (n : Int) := by omega
 have m6 : (if (65536 : Int) < (n : Int) then (65536 : Int) else (n : Int)) = (n : Int) := by rw [if_neg m1]
 have m7 : (if (65536 : Nat) < n then (65536 : Int) else (n : Int)) = (n : Int) := by rw [if_neg (by omega)]
 have m8 : ¬ (n : Int) < 0 := by omega
 go_enter Tryz.func150, Tryz.ntmps150
 go_wp2_with fail
 clear m4 m5 m6 m7
 generalize ((w.alloc (.cells #[.int .u64 (lo a : Int), .string (mo a)] 52)).alloc (.cells #[.int .u64 0, .string ⟨#[]⟩] 52)) = W at *
 refine (Xx a W (by omega) (by omega)).mono ?_
 rintro e w1 ⟨v1, rfl, aR, bF, cI⟩
 have b1 := b1.below bF b1.lt
 have cJ := Ja hB bF
 obtain ⟨A1, c1, bR, cU, cV⟩ := aR.form
 rw [bR] at aR ⊢
 have bG := Own.reads aR
 have cK := Js a
 have bS := Jp a
 generalize Jg a = l at *
 have HL := lh bG.lenf
 have HV := lh bS
 clear bR aR cI bF bS
 generalize l.length = p at *
 go_wp2_with fail
 refine (Jao A1 p c1 _ n l w1 bG zd cK (by omega) (by omega)).mono ?_
 rintro e w2 ⟨g, l2, rfl, bT, o5, cL, bH, bI, cZ⟩
 have b1 := b1.below bI b1.lt
 have cM := Ja cJ bI
 have aS := o5.reads
 rw [bT] at aS
 obtain ⟨L, hL⟩ : ∃ L, p + n / 64 + 1 = L := ⟨_, rfl⟩
 rw [hL] at aS ⊢
 have dA : L <= 17592186044416 := by omega
 rw [HV.out] at bH
 have HV2 := lh bH
 clear bT hL bH bI
 go_wp2_with fail
 refine (Qk _ L L _ l2 w2 aS o5.lt cL (by omega) zd).mono ?_
 rintro e w3 ⟨rfl, bU⟩
 rw [HV2.out]
 have cN := Ja cM bU
 (try clear bJ bK bL bM aM aN); obtain ⟨b1, bJ, bK, bL, bM, aM, aN⟩ := b1.zf2 bU
 clear aS bG
 unfold Jj
 generalize a * 2 ^ n = N at *
 go_wp2
 refine bodyPost_ret (v := .agg #[.int .u64 (lo N : Int), .string (mo N)]) (by simp [results, Tryz.results150, go_sem, aM, aN]) rfl ?_
 exact ⟨rfl, Xz cN (by omega) _ _⟩
