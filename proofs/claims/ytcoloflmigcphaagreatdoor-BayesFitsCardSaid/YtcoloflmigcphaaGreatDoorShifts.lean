import Derived.Test.YtcoloflmigcphaaGreatDoorNatC
import Derived.RegionTactic
import Derived.BigRegion
namespace Go.Proofs.YtcoloflmigcphaaGreatDoor
set_option maxRecDepth 100000
set_option maxHeartbeats 1000000
open Go.RowKit
set_option linter.all false
theorem Kq (r : Nat) (h : r <= 64) : (18446744073709551616 : Nat) = 2 ^ r * 2 ^ (64 - r) := by rw [<- Nat.pow_add, show r + (64 - r) = 64 from by omega]
theorem Jgm (y x r : Nat) (hy : y < 2 ^ r) (hr : r < 64) : bits .or .u64 (y : Int) (IntKind.u64.wrap ((x : Int) * 2 ^ r)) = ((y + x * 2 ^ r % 18446744073709551616 : Nat) : Int) /\ y + x * 2 ^ r % 18446744073709551616 < 18446744073709551616 := by
 have hs := Kq r (by omega)
 have hp : 0 < 2 ^ r := Nat.pow_pos (by omega)
 have e1 : x * 2 ^ r % 18446744073709551616 = 2 ^ r * (x % 2 ^ (64 - r)) := by
  conv => lhs; rw [hs, Nat.mul_comm x, Nat.mul_mod_mul_left]
 have aA : x % 2 ^ (64 - r) < 2 ^ (64 - r) := Nat.mod_lt _ (Nat.pow_pos (by omega))
 have h2 : 2 ^ r * (x % 2 ^ (64 - r)) + 2 ^ r <= 2 ^ r * 2 ^ (64 - r) := by
  rw [<- Nat.mul_succ]
  exact Nat.mul_le_mul_left _ aA
 rw [<- hs] at h2
 have aN : x * 2 ^ r % 18446744073709551616 < 18446744073709551616 := Nat.mod_lt _ (by omega)
 have bP : y < 18446744073709551616 := by omega
 refine ⟨?_, by rw [e1]; omega⟩
 rw [show (x : Int) * 2 ^ r = ((x * 2 ^ r : Nat) : Int) from by rw [Int.natCast_mul, Int.natCast_pow]; rfl, Jf, Ut _ _ bP aN, e1, Nat.add_comm y, Nat.two_pow_add_eq_or_of_lt hy, Nat.or_comm]
theorem Jgd (x r P : Nat) : x * 2 ^ r % 18446744073709551616 * P + x * 2 ^ r / 18446744073709551616 * (P * 18446744073709551616) = x * 2 ^ r * P := by
 have h := Nat.div_add_mod (x * 2 ^ r) 18446744073709551616
 generalize x * 2 ^ r = z at *
 conv => rhs; rw [<- h]
 rw [Nat.add_mul, Nat.mul_comm (18446744073709551616 * _) P, <- Nat.mul_assoc P, Nat.mul_comm (z / _) (P * _), Nat.add_comm]
theorem Uv (A : Option Addr) (p c B n : Nat) (lX : List Nat) (w : World) (hX : Reads w B 1 A p (lX.map Jh)) (hB : B <= w.heap.size) (hd : Dig 18446744073709551616 lX) (hp : p <= 8796093022208) (hn : n <= 1099511627776) :
  Calls Tryz.prog 163 #[.slice A p c, .int .i64 (n : Int)] w (Jn1 w (dv 18446744073709551616 lX * 2 ^ n) (p + n / 64 + 1)) := by
 have aB := hX.lenf
 obtain ⟨h, hh⟩ : ∃ h, n / 64 = h := ⟨_, rfl⟩
 obtain ⟨r, hr⟩ : ∃ r, n % 64 = r := ⟨_, rfl⟩
 have dE : n = 64 * h + r := by omega
 have o0 : r < 64 := by omega
 have cU : (2 : Nat) ^ n = 18446744073709551616 ^ h * 2 ^ r := by rw [dE, Nat.pow_add, Nat.pow_mul]
 have c1 : (n : Int) / 64 = (h : Int) := by omega
 have c2 : (n : Int) % 64 = (r : Int) := by omega
 obtain ⟨L, hL⟩ : ∃ L, p + h + 1 = L := ⟨_, rfl⟩
 have c3 : (p : Int) + (h : Int) + 1 = (L : Int) := by omega
 have cJ : h <= 17179869184 := by omega
 rw [hh, hL]
 have aO := Qh (P := Tryz.prog) Jh 0 157 35 8 Tryz.underlying157 Tryz.infoU64 rfl .i64 .i64 L (by omega) (by omega)
 have HL := lh (And.intro aB (And.intro hL (And.intro cU dE)))
 have bQ : IntKind.u64.wrap (r : Int) = (r : Int) := Jc _ (by omega) (by omega)
 clear aB hh hr cU hL dE
 go_enter Tryz.func163, Tryz.ntmps163
 go_wp2_with fail
 clear aO c1 c2 c3
 have j9 := Row.rep w 35 Jh 0 L
 have o9 := Jb w (.cells (Array.replicate L (Jh 0)) 35)
 obtain ⟨g, hg⟩ : ∃ g, w.heap.size = g := ⟨_, rfl⟩
 have HG := lh hg
 rw [hg] at j9
 rw [hg]
 have s9 : w.heap.size <= g := by omega
 clear hg
 go_loopw [8, 9, 23] (fun _ _ i wr => ∃ k : Nat, k <= p /\ i = .int .i64 k /\ Jae w g L (dv 18446744073709551616 (lX.take k) * 2 ^ n) wr) (fun _ _ i _ => p - (intOf i).toNat)
 case atStart => exact ⟨0, Nat.zero_le _, rfl, _, by simp, j9, Dig.rep (by omega) _, by rw [Yx]; simp [dv], o9⟩
 case round =>
  obtain ⟨i, hi, rfl, l, hl, bR, dA, hv, hb⟩ := hrel
  clear j9 o9
  by_cases aA : i < p
  ·have aC := hX.below (hb.mono hB)
   obtain ⟨ad, x, hA, bS, hx, aP⟩ := aC.atf aA
   have aI := hd.get hx
   have bH := Jv (β := 18446744073709551616) hx
   obtain ⟨k, hk⟩ : ∃ k, i + h = k := ⟨_, rfl⟩
   have cK : k + 1 < L := by have := HL.out.2.1; omega
   have dC : dv 18446744073709551616 l < 18446744073709551616 ^ k * 2 ^ r := by
    rw [hv, HL.out.2.2.1, <- Nat.mul_assoc]
    have h1 := Xm (hd.take i)
    rw [List.length_take, HL.out.1, Nat.min_eq_left (by omega)] at h1
    refine Nat.mul_lt_mul_of_pos_right ?_ (Nat.pow_pos (by omega))
    rw [<- hk, Nat.pow_add]
    exact Nat.mul_lt_mul_of_pos_right h1 (Nat.pow_pos (by omega))
   obtain ⟨y, hy⟩ : ∃ y, l[k]? = some y := ⟨_, List.getElem?_eq_getElem (by omega)⟩
   obtain ⟨y1, aJ⟩ : ∃ y1, l[k + 1]? = some y1 := ⟨_, List.getElem?_eq_getElem (by omega)⟩
   have bI : y < 2 ^ r := by
    have h1 := Jek (β := 18446744073709551616) hy
    have h2 : y * 18446744073709551616 ^ k < 2 ^ r * 18446744073709551616 ^ k := by rw [Nat.mul_comm (2 ^ r)]; omega
    exact Nat.lt_of_mul_lt_mul_right h2
   have aQ : y1 = 0 := by
    have h1 : dv 18446744073709551616 (l.drop (k + 1)) = 0 := by
     apply Kg dA (by omega)
     rw [Nat.pow_succ]
     refine Nat.lt_of_lt_of_le dC (Nat.mul_le_mul_left _ ?_)
     exact Nat.pow_le_pow_right (by omega) (show r <= 64 by omega)
    exact Jaq (by omega) h1 (k := 0) (by rw [List.getElem?_drop]; exact aJ)
   subst aQ
   obtain ⟨aR, p9⟩ := Jgm y x r bI o0
   obtain ⟨z, hz⟩ : ∃ z, y + x * 2 ^ r % 18446744073709551616 = z := ⟨_, rfl⟩
   obtain ⟨u, hu⟩ : ∃ u, x * 2 ^ r / 18446744073709551616 = u := ⟨_, rfl⟩
   rw [hz] at aR p9
   have dD : u < 18446744073709551616 := by
    rw [<- hu, Nat.div_lt_iff_lt_mul (by omega)]
    exact Nat.mul_lt_mul'' aI (Nat.pow_lt_pow_right (by omega) (show r < 64 by omega))
   have aS : (x : Int) / 2 ^ (64 - r) = (u : Int) := by
    rw [<- hu]
    have hs := Kq r (by omega)
    have e : x * 2 ^ r / 18446744073709551616 = x / 2 ^ (64 - r) := by
     conv => lhs; rw [hs, Nat.mul_comm x, Nat.mul_div_mul_left _ _ (Nat.pow_pos (by omega))]
    rw [e, Int.natCast_ediv, Int.natCast_pow]
    rfl
   have aT := bR.cell hy
   have bT := bR.frozen k
   have bU := bR.frozen (k + 1)
   have dB := bR.cell aJ
   have j0 := bR.set_ k z
   have dF : (l.set k z)[k + 1]? = some 0 := by rw [List.getElem?_set_ne (by omega)]; exact aJ
   have aU := j0.cell dF
   have bV := j0.frozen (k + 1)
   have cZ := j0.set_ (k + 1) u
   have j6 : dv 18446744073709551616 ((l.set k z).set (k + 1) u) = dv 18446744073709551616 (lX.take (i + 1)) * 2 ^ n := by
    have h1 := Yl (β := 18446744073709551616) z hy
    have h2 := Yl (β := 18446744073709551616) u dF
    have h3 := Jgd x r (18446744073709551616 ^ k)
    rw [hu] at h3
    have bW : z * 18446744073709551616 ^ k = y * 18446744073709551616 ^ k + x * 2 ^ r % 18446744073709551616 * 18446744073709551616 ^ k := by rw [<- hz, Nat.add_mul]
    rw [bW, hv] at h1
    rw [Nat.pow_succ] at h2
    rw [bH, Nat.add_mul]
    have h4 : x * 18446744073709551616 ^ i * 2 ^ n = x * 2 ^ r * 18446744073709551616 ^ k := by
     rw [HL.out.2.2.1, <- hk, Nat.pow_add, Nat.mul_assoc, Nat.mul_assoc, Nat.mul_comm (2 ^ r), Nat.mul_assoc]
    omega
   have j7 : Jae w g L (dv 18446744073709551616 (lX.take (i + 1)) * 2 ^ n) ((wr.setCell ⟨g, k, none⟩ (Jh z)).setCell ⟨g, k + 1, none⟩ (Jh u)) :=
    ⟨_, by rw [List.length_set, List.length_set]; exact hl, cZ, (dA.set_ k p9).set_ (k + 1) dD, j6, (hb.setCell s9 _).setCell s9 _⟩
   have HFIN := lh j7
   have k1 : ((i : Int) + (h : Int)) = (k : Int) := by omega
   have k2 : (k : Int) + 1 < (L : Int) := by omega
   have k3 : (k : Int) < (L : Int) := by omega
   have k4 : (i : Int) < (p : Int) := by omega
   have k5 : (64 : Int) - (r : Int) = ((64 - r : Nat) : Int) := by omega
   have k6 : IntKind.u64.wrap (64 - (r : Int)) = ((64 - r : Nat) : Int) := by rw [Jc _ (by omega) (by omega)]; omega
   have k7 : (r : Int) <= 63 := by omega
   have k8 : ((k : Int) + 1).toNat = k + 1 := by omega
   unfold Jh at aP aT aU dB
   clear hz hu hx bH dC hy aJ dF j0 cZ j6 j7 hv hl dA hb aC k5 bI
   subst hA
   go_wp2
   exact ⟨⟨i + 1, by omega, by go_num, HFIN.out⟩, by simp [intOf]; omega⟩
  obtain rfl : i = p := by omega
  rw [List.take_of_length_le (by rw [HL.out.1]; omega)] at hv
  go_wp2
  go_ret
  exact ⟨g, l, rfl, hl, bR, dA, hv, hb, s9⟩
theorem Kb {l : List Nat} {k r x y R : Nat} (hr : r < 64) (hx : x < 18446744073709551616) (y9 : dv 18446744073709551616 (l.drop k) = x + 18446744073709551616 * (y + 18446744073709551616 * R)) :
  dv 18446744073709551616 (l.drop k) / 2 ^ r % 18446744073709551616 = x / 2 ^ r + y * 2 ^ (64 - r) % 18446744073709551616 /\ x / 2 ^ r < 2 ^ (64 - r) := by
 have hs := Kq r (by omega)
 have hp : 0 < 2 ^ r := Nat.pow_pos (by omega)
 have hq : 0 < 2 ^ (64 - r) := Nat.pow_pos (by omega)
 have bX : x / 2 ^ r < 2 ^ (64 - r) := by
  rw [Nat.div_lt_iff_lt_mul hp, Nat.mul_comm, <- hs]
  exact hx
 refine ⟨?_, bX⟩
 rw [y9]
 have e1 : x + 18446744073709551616 * (y + 18446744073709551616 * R) = x + 2 ^ r * (2 ^ (64 - r) * (y + 18446744073709551616 * R)) := by
  rw [<- Nat.mul_assoc, <- hs]
 rw [e1, Nat.add_mul_div_left _ _ hp]
 have e2 : x / 2 ^ r + 2 ^ (64 - r) * (y + 18446744073709551616 * R) = x / 2 ^ r + y * 2 ^ (64 - r) + 18446744073709551616 * (2 ^ (64 - r) * R) := by
  rw [Nat.mul_add, Nat.mul_comm y, Nat.mul_left_comm (2 ^ (64 - r))]
  omega
 rw [e2, Nat.add_mul_mod_self_left]
 have e3 : y * 2 ^ (64 - r) % 18446744073709551616 = 2 ^ (64 - r) * (y % 2 ^ r) := by
  conv => lhs; rw [hs, Nat.mul_comm (2 ^ r), Nat.mul_comm y, Nat.mul_mod_mul_left]
 have aA : y % 2 ^ r < 2 ^ r := Nat.mod_lt _ hp
 have h2 : 2 ^ (64 - r) * (y % 2 ^ r) + 2 ^ (64 - r) <= 2 ^ (64 - r) * 2 ^ r := by
  rw [<- Nat.mul_succ]
  exact Nat.mul_le_mul_left _ aA
 rw [Nat.mul_comm (2 ^ (64 - r)) (2 ^ r), <- hs] at h2
 rw [Nat.add_mod, Nat.mod_eq_of_lt (show x / 2 ^ r < 18446744073709551616 by omega), Nat.mod_eq_of_lt (by rw [e3]; omega)]
theorem Jcq (u y r : Nat) (hu : u < 2 ^ (64 - r)) (hr : r < 64) : bits .or .u64 (u : Int) (IntKind.u64.wrap ((y : Int) * 2 ^ (64 - r))) = ((u + y * 2 ^ (64 - r) % 18446744073709551616 : Nat) : Int) /\ u + y * 2 ^ (64 - r) % 18446744073709551616 < 18446744073709551616 := by
 by_cases h0 : r = 0
 ·subst h0
  rw [Nat.sub_zero] at *
  have e : y * 2 ^ 64 % 18446744073709551616 = 0 := by rw [show (2 : Nat) ^ 64 = 18446744073709551616 from rfl, Nat.mul_mod_left]
  rw [show (y : Int) * 2 ^ 64 = ((y * 2 ^ 64 : Nat) : Int) from by rw [Int.natCast_mul, Int.natCast_pow]; rfl, Jf, e, Ut _ _ (by omega) (by omega), Nat.or_zero, Nat.add_zero]
  exact ⟨rfl, by omega⟩
 exact Jgm u y (64 - r) hu (by omega)
theorem Jdl (A : Option Addr) (p c B n : Nat) (lX : List Nat) (w : World) (hX : Reads w B 1 A p (lX.map Jh)) (hB : B <= w.heap.size) (hd : Dig 18446744073709551616 lX) (hp : p <= 8796093022208) (hn : n <= 1099511627776) (bY : n / 64 < p) :
  Calls Tryz.prog 165 #[.slice A p c, .int .i64 (n : Int)] w (Jn1 w (dv 18446744073709551616 lX / 2 ^ n) (p - n / 64)) := by
 have aB := hX.lenf
 obtain ⟨h, hh⟩ : ∃ h, n / 64 = h := ⟨_, rfl⟩
 obtain ⟨r, hr⟩ : ∃ r, n % 64 = r := ⟨_, rfl⟩
 have dE : n = 64 * h + r := by omega
 have o0 : r < 64 := by omega
 have cU : (2 : Nat) ^ n = 18446744073709551616 ^ h * 2 ^ r := by rw [dE, Nat.pow_add, Nat.pow_mul]
 have c1 : (n : Int) / 64 = (h : Int) := by omega
 have c2 : (n : Int) % 64 = (r : Int) := by omega
 rw [hh] at bY
 obtain ⟨L, hL⟩ : ∃ L, p - h = L := ⟨_, rfl⟩
 have c3 : (p : Int) - (h : Int) = (L : Int) := by omega
 have c4 : ¬ (p : Int) <= (h : Int) := by omega
 rw [hh, hL]
 have aO := Qh (P := Tryz.prog) Jh 0 157 35 8 Tryz.underlying157 Tryz.infoU64 rfl .i64 .i64 L (by omega) (by omega)
 obtain ⟨M, hM⟩ : ∃ M, dv 18446744073709551616 lX / 2 ^ n = M := ⟨_, rfl⟩
 rw [hM]
 have bZ : M < 18446744073709551616 ^ L := by
  rw [<- hM, cU, <- Nat.div_div_eq_div_mul, Zx hd (by omega)]
  have h1 := Xm (hd.drop h)
  rw [List.length_drop, aB, hL] at h1
  exact Nat.lt_of_le_of_lt (Nat.div_le_self _ _) h1
 have HL := lh (And.intro aB (And.intro hL (And.intro cU (And.intro dE hM))))
 have bQ : IntKind.u64.wrap (r : Int) = (r : Int) := Jc _ (by omega) (by omega)
 have cL : L <= p := by omega
 have bJ : p = L + h := by omega
 clear aB hh hr cU hL dE hM
 go_enter Tryz.func165, Tryz.ntmps165
 have HPL := lh bJ
 clear bJ
 go_wp2_with fail
 clear aO c1 c2 c3 c4
 have j9 := Row.rep w 35 Jh 0 L
 have o9 := Jb w (.cells (Array.replicate L (Jh 0)) 35)
 obtain ⟨g, hg⟩ : ∃ g, w.heap.size = g := ⟨_, rfl⟩
 have HG := lh hg
 rw [hg] at j9
 rw [hg]
 have s9 : w.heap.size <= g := by omega
 clear hg
 go_loopw [8, 25] (fun _ i wr => ∃ k : Nat, k <= L /\ i = .int .i64 k /\ Jae w g L (M % 18446744073709551616 ^ k) wr) (fun _ i _ => L - (intOf i).toNat)
 case atStart => exact ⟨0, Nat.zero_le _, rfl, _, by simp, j9, Dig.rep (by omega) _, by rw [Yx]; simp [Nat.mod_one], o9⟩
 case round =>
  obtain ⟨i, hi, rfl, l, hl, bR, dA, hv, hb⟩ := hrel
  clear j9 o9
  by_cases aA : i < L
  ·have aC := hX.below (hb.mono hB)
   obtain ⟨k, hk⟩ : ∃ k, i + h = k := ⟨_, rfl⟩
   have cA : k < p := by have := HPL.out; omega
   obtain ⟨ad, x, hA, bS, hx, aP⟩ := aC.atf cA
   have aI := hd.get hx
   obtain ⟨v0, aD⟩ : ∃ v0, l[i]? = some v0 := ⟨_, List.getElem?_eq_getElem (by omega)⟩
   have aV : v0 = 0 := by
    have h1 : dv 18446744073709551616 (l.drop i) = 0 := by
     apply Kg dA (by omega)
     rw [hv]
     exact Nat.mod_lt _ (Nat.pow_pos (by omega))
    exact Jaq (by omega) h1 (k := 0) (by rw [List.getElem?_drop]; exact aD)
   subst aV
   have aK : M / 18446744073709551616 ^ i = dv 18446744073709551616 (lX.drop k) / 2 ^ r := by
    rw [<- HL.out.2.2.2.2, HL.out.2.2.1, Nat.div_div_eq_div_mul, <- hk, <- Zx hd (by omega), Nat.div_div_eq_div_mul, Nat.pow_add]
    congr 1
    rw [Nat.mul_comm (18446744073709551616 ^ h), Nat.mul_assoc, Nat.mul_comm (2 ^ r), Nat.mul_comm (18446744073709551616 ^ h)]
   have cN : ((i : Int) + (h : Int)) = (k : Int) := by omega
   have aT := bR.cell aD
   have bT := bR.frozen i
   obtain ⟨u, hu⟩ : ∃ u, x / 2 ^ r = u := ⟨_, rfl⟩
   have aS : (x : Int) / 2 ^ r = (u : Int) := by
    rw [<- hu, Int.natCast_ediv, Int.natCast_pow]
    rfl
   have k3 : (k : Int) < (p : Int) := by omega
   have k4 : (i : Int) < (L : Int) := by omega
   have k7 : (r : Int) <= 63 := by omega
   have k9 : (64 : Int) - (r : Int) = ((64 - r : Nat) : Int) := by omega
   have k6 : IntKind.u64.wrap (64 - (r : Int)) = ((64 - r : Nat) : Int) := by rw [Jc _ (by omega) (by omega)]; omega
   unfold Jh at aP aT
   clear k9
   subst hA
   by_cases aW : k + 1 < p
   ·obtain ⟨ad2, y, aX, cB, hy, dB⟩ := aC.atf aW
    injection aX with aX
    subst aX
    have y9 : dv 18446744073709551616 (lX.drop k) = x + 18446744073709551616 * (y + 18446744073709551616 * dv 18446744073709551616 (lX.drop (k + 1 + 1))) := by
     rw [Qa hx, Qa hy]
    obtain ⟨j8, dD⟩ := Kb o0 aI y9
    rw [hu] at j8 dD
    obtain ⟨aR, p9⟩ := Jcq u y r dD o0
    obtain ⟨z, hz⟩ : ∃ z, u + y * 2 ^ (64 - r) % 18446744073709551616 = z := ⟨_, rfl⟩
    rw [hz] at aR p9 j8
    have j6 : dv 18446744073709551616 (l.set i z) = M % 18446744073709551616 ^ (i + 1) := by
     have h1 := Yl (β := 18446744073709551616) z aD
     rw [Nat.mod_pow_succ, aK, j8, <- hv]
     rw [Nat.mul_comm (18446744073709551616 ^ i)]
     omega
    have aE : u < 18446744073709551616 := by
     have := Nat.pow_le_pow_right (show 0 < 2 by omega) (show 64 - r <= 64 by omega)
     omega
    have j0 := bR.set_ i u
    have cZ := j0.set_ i z
    rw [List.set_set] at cZ
    have bK : (l.set i u)[i]? = some u := by rw [List.getElem?_set_self (by omega)]
    have dG := j0.cell bK
    have cO := j0.frozen i
    have aF : (wr.setCell ⟨g, i, none⟩ (Jh u)).cell? (ad.add (k + 1)) = some (Jh y) := by
     rw [World.cell?_setCell_other _ _ _ _ (fun e => by have h9 := congrArg Addr.block e; rw [Jz] at h9; simp at h9; have := aC.2 (by omega); omega)]
     exact dB
    have aY : (wr.setCell ⟨g, i, none⟩ (Jh u)).cell? ⟨ad.block, ad.off + (k + 1), none⟩ = some (Jh y) := by
     have h9 := aF
     unfold Addr.add at h9
     rw [if_neg (by omega)] at h9
     exact h9
    have j7 : Jae w g L (M % 18446744073709551616 ^ (i + 1)) (((wr.setCell ⟨g, i, none⟩ (Jh u)).drew).setCell ⟨g, i, none⟩ (Jh z)) :=
     ⟨_, by rw [List.length_set]; exact hl, cZ, dA.set_ i p9, j6, Jw ((hb.setCell s9 _).setCell s9 _) 1⟩
    have HFIN := lh j7
    unfold Jh at dG aF dB aY
    have k10 : (k : Int) + 1 < (p : Int) := by omega
    have k11 : ((k : Int) + 1).toNat = k + 1 := by omega
    clear j8 dD hz j6 j0 cZ j7 bK hu aD hx hy hv hl dA hb aK y9
    go_wp2_with fail
    go_region
    go_wp2
    exact ⟨⟨i + 1, by omega, by go_num, HFIN.out⟩, by simp [intOf]; omega⟩
   have y9 : dv 18446744073709551616 (lX.drop k) = x + 18446744073709551616 * (0 + 18446744073709551616 * 0) := by
    rw [Qa hx, Qx (by rw [HL.out.1]; omega)]
   obtain ⟨j8, dD⟩ := Kb o0 aI y9
   rw [hu, Nat.zero_mul, Nat.zero_mod, Nat.add_zero] at j8
   rw [hu] at dD
   have aE : u < 18446744073709551616 := by
    have := Nat.pow_le_pow_right (show 0 < 2 by omega) (show 64 - r <= 64 by omega)
    omega
   have j6 : dv 18446744073709551616 (l.set i u) = M % 18446744073709551616 ^ (i + 1) := by
    have h1 := Yl (β := 18446744073709551616) u aD
    rw [Nat.mod_pow_succ, aK, j8, <- hv]
    rw [Nat.mul_comm (18446744073709551616 ^ i)]
    omega
   have j7 : Jae w g L (M % 18446744073709551616 ^ (i + 1)) (wr.setCell ⟨g, i, none⟩ (Jh u)) :=
    ⟨_, by rw [List.length_set]; exact hl, bR.set_ i u, dA.set_ i aE, j6, hb.setCell s9 _⟩
   have HFIN := lh j7
   have k10 : ¬ (k : Int) + 1 < (p : Int) := by omega
   clear j8 dD j6 j7 hu aD hx hv hl dA hb aK y9
   go_wp2
   exact ⟨⟨i + 1, by omega, by go_num, HFIN.out⟩, by simp [intOf]; omega⟩
  obtain rfl : i = L := by omega
  rw [Nat.mod_eq_of_lt bZ] at hv
  go_wp2
  go_ret
  exact ⟨g, l, rfl, hl, bR, dA, hv, hb, s9⟩
theorem Je8 (a n : Nat) (w : World) (ha : Je a <= 1099511627776) (hn : n <= 65536) : Calls Tryz.prog 151 #[Jg a, .int .i64 (n : Int)] w (Ret (Jg (a * 2 ^ n)) w) := by
 have cP := Qq a ha
 unfold Jg
 obtain ⟨b0, b1, hB, hZ⟩ := bx2 w 37 #[.int .u64 (lo a : Int), .string (mo a)] 37 #[.int .u64 0, .string ⟨#[]⟩]
 have m1 : ¬ (65536 : Int) < (n : Int) := by omega
 have m2 : (-65536 : Int) < (n : Int) := by omega
 have m3 : ¬ (n : Int) < -65536 := by omega
 have m4 : min (n : Int) 65536 = (n : Int) := by omega
 have m5 : max (-65536) (n : Int) = (n : Int) := by omega
 have m6 : (if (65536 : Int) < (n : Int) then (65536 : Int) else (n : Int)) = (n : Int) := by rw [if_neg m1]
 have m7 : (if (65536 : Nat) < n then (65536 : Int) else (n : Int)) = (n : Int) := by rw [if_neg (by omega)]
 have m8 : ¬ (n : Int) < 0 := by omega
 go_enter Tryz.func151, Tryz.ntmps151
 go_wp2_with fail
 clear m4 m5 m6 m7
 generalize ((w.alloc (.cells #[.int .u64 (lo a : Int), .string (mo a)] 37)).alloc (.cells #[.int .u64 0, .string ⟨#[]⟩] 37)) = W at *
 refine (Xl a W (by omega) (by omega)).mono ?_
 rintro e w1 ⟨v1, rfl, aL, aZ, cD⟩
 have b1 := b1.below aZ b1.lt
 have cE := Ja hB aZ
 obtain ⟨A1, c1, bL, dH, cR⟩ := aL.form
 rw [bL] at aL ⊢
 have bA := Own.reads aL
 have cF := Jl a
 have bM := Ji a
 generalize words a = l at *
 have HL := lh bA.lenf
 have HV := lh bM
 clear bL aL cD aZ bM
 generalize l.length = p at *
 go_wp2_with fail
 refine (Uv A1 p c1 _ n l w1 bA zd cF (by omega) (by omega)).mono ?_
 rintro e w2 ⟨g, l2, rfl, bN, bR, cG, bB, bC, dI⟩
 have b1 := b1.below bC b1.lt
 have cH := Ja cE bC
 have aM := bR.reads
 rw [bN] at aM
 obtain ⟨L, hL⟩ : ∃ L, p + n / 64 + 1 = L := ⟨_, rfl⟩
 rw [hL] at aM ⊢
 have cT : L <= 17592186044416 := by omega
 rw [HV.out] at bB
 have HV2 := lh bB
 clear bN hL bB bC
 go_wp2_with fail
 refine (Qe _ L L _ l2 w2 aM bR.lt cG (by omega) zd).mono ?_
 rintro e w3 ⟨rfl, bO⟩
 rw [HV2.out]
 have cI := Ja cH bO
 (try clear bD bE bF bG aG aH); obtain ⟨b1, bD, bE, bF, bG, aG, aH⟩ := b1.zf2 bO
 clear aM bA
 unfold Jg
 generalize a * 2 ^ n = N at *
 go_wp2
 refine bodyPost_ret (v := .agg #[.int .u64 (lo N : Int), .string (mo N)]) (by simp [results, Tryz.results151, go_sem, aG, aH]) rfl ?_
 exact ⟨rfl, Xo cI (by omega) _ _⟩
