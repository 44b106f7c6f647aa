import Derived.Test.YtacbcaebaomglaaGreatDoorNatC
import Derived.RegionTactic
import Derived.BigRegion
namespace Go.Proofs.YtacbcaebaomglaaGreatDoor
set_option maxRecDepth 100000
set_option maxHeartbeats 1000000
open Go.RowKit
set_option linter.all false
theorem Kl (r : Nat) (h : r <= 64) : (18446744073709551616 : Nat) = 2 ^ r * 2 ^ (64 - r) := by rw [<- Nat.pow_add, show r + (64 - r) = 64 from by omega]
theorem Jfa (y x r : Nat) (hy : y < 2 ^ r) (hr : r < 64) : bits .or .u64 (y : Int) (IntKind.u64.wrap ((x : Int) * 2 ^ r)) = ((y + x * 2 ^ r % 18446744073709551616 : Nat) : Int) /\ y + x * 2 ^ r % 18446744073709551616 < 18446744073709551616 := by
 have hs := Kl r (by omega)
 have hp : 0 < 2 ^ r := Nat.pow_pos (by omega)
 have e1 : x * 2 ^ r % 18446744073709551616 = 2 ^ r * (x % 2 ^ (64 - r)) := by
  conv => lhs; rw [hs, Nat.mul_comm x, Nat.mul_mod_mul_left]
 have q9 : x % 2 ^ (64 - r) < 2 ^ (64 - r) := Nat.mod_lt _ (Nat.pow_pos (by omega))
 have h2 : 2 ^ r * (x % 2 ^ (64 - r)) + 2 ^ r <= 2 ^ r * 2 ^ (64 - r) := by
  rw [<- Nat.mul_succ]
  exact Nat.mul_le_mul_left _ q9
 rw [<- hs] at h2
 have aB : x * 2 ^ r % 18446744073709551616 < 18446744073709551616 := Nat.mod_lt _ (by omega)
 have bD : y < 18446744073709551616 := by omega
 refine ⟨?_, by rw [e1]; omega⟩
 rw [show (x : Int) * 2 ^ r = ((x * 2 ^ r : Nat) : Int) from by rw [Int.natCast_mul, Int.natCast_pow]; rfl, Jg, Ul _ _ bD aB, e1, Nat.add_comm y, Nat.two_pow_add_eq_or_of_lt hy, Nat.or_comm]
theorem Je0 (x r P : Nat) : x * 2 ^ r % 18446744073709551616 * P + x * 2 ^ r / 18446744073709551616 * (P * 18446744073709551616) = x * 2 ^ r * P := by
 have h := Nat.div_add_mod (x * 2 ^ r) 18446744073709551616
 generalize x * 2 ^ r = z at *
 conv => rhs; rw [<- h]
 rw [Nat.add_mul, Nat.mul_comm (18446744073709551616 * _) P, <- Nat.mul_assoc P, Nat.mul_comm (z / _) (P * _), Nat.add_comm]
theorem Um (A : Option Addr) (p c B n : Nat) (lX : List Nat) (w : World) (hX : Reads w B 1 A p (lX.map Jj)) (hB : B <= w.heap.size) (hd : Dig 18446744073709551616 lX) (hp : p <= 8796093022208) (hn : n <= 1099511627776) :
  Calls Tryz.prog 175 #[.slice A p c, .int .i64 (n : Int)] w (Jlv w (dv 18446744073709551616 lX * 2 ^ n) (p + n / 64 + 1)) := by
 have hlx := hX.lenf
 obtain ⟨h, hh⟩ : ∃ h, n / 64 = h := ⟨_, rfl⟩
 obtain ⟨r, hr⟩ : ∃ r, n % 64 = r := ⟨_, rfl⟩
 have p8 : n = 64 * h + r := by omega
 have l7 : r < 64 := by omega
 have j9 : (2 : Nat) ^ n = 18446744073709551616 ^ h * 2 ^ r := by rw [p8, Nat.pow_add, Nat.pow_mul]
 have c1 : (n : Int) / 64 = (h : Int) := by omega
 have c2 : (n : Int) % 64 = (r : Int) := by omega
 obtain ⟨L, hL⟩ : ∃ L, p + h + 1 = L := ⟨_, rfl⟩
 have c3 : (p : Int) + (h : Int) + 1 = (L : Int) := by omega
 have bW : h <= 17179869184 := by omega
 rw [hh, hL]
 have aC := Ql (P := Tryz.prog) Jj 0 178 59 8 Tryz.underlying178 Tryz.infoU64 rfl .i64 .i64 L (by omega) (by omega)
 have HL := lh (And.intro hlx (And.intro hL (And.intro j9 p8)))
 have bE : IntKind.u64.wrap (r : Int) = (r : Int) := Jc _ (by omega) (by omega)
 clear hlx hh hr j9 hL p8
 go_enter Tryz.func175, Tryz.ntmps175
 go_wp2_with fail
 clear aC c1 c2 c3
 have j7 := Row.rep w 59 Jj 0 L
 have o0 := Jb w (.cells (Array.replicate L (Jj 0)) 59)
 obtain ⟨g, hg⟩ : ∃ g, w.heap.size = g := ⟨_, rfl⟩
 have HG := lh hg
 rw [hg] at j7
 rw [hg]
 have o9 : w.heap.size <= g := by omega
 clear hg
 go_loopw [8, 9, 23] (fun _ _ i wr => ∃ k : Nat, k <= p /\ i = .int .i64 k /\ Vx w g L (dv 18446744073709551616 (lX.take k) * 2 ^ n) wr) (fun _ _ i _ => p - (intOf i).toNat)
 case atStart => exact ⟨0, Nat.zero_le _, rfl, _, by simp, j7, Dig.rep (by omega) _, by rw [Yo]; simp [dv], o0⟩
 case round =>
  obtain ⟨i, hi, rfl, l, hl, j8, o6, hv, hb⟩ := hrel
  clear j7 o0
  by_cases q9 : i < p
  ·have s9 := hX.below (hb.mono hB)
   obtain ⟨ad, x, hA, bF, hx, aD⟩ := s9.atf q9
   have x8 := hd.get hx
   have aV := Jt (β := 18446744073709551616) hx
   obtain ⟨k, hk⟩ : ∃ k, i + h = k := ⟨_, rfl⟩
   have bX : k + 1 < L := by have := HL.out.2.1; omega
   have p0 : dv 18446744073709551616 l < 18446744073709551616 ^ k * 2 ^ r := by
    rw [hv, HL.out.2.2.1, <- Nat.mul_assoc]
    have h1 := Xf (hd.take i)
    rw [List.length_take, HL.out.1, Nat.min_eq_left (by omega)] at h1
    refine Nat.mul_lt_mul_of_pos_right ?_ (Nat.pow_pos (by omega))
    rw [<- hk, Nat.pow_add]
    exact Nat.mul_lt_mul_of_pos_right h1 (Nat.pow_pos (by omega))
   obtain ⟨y, hy⟩ : ∃ y, l[k]? = some y := ⟨_, List.getElem?_eq_getElem (by omega)⟩
   obtain ⟨y1, x9⟩ : ∃ y1, l[k + 1]? = some y1 := ⟨_, List.getElem?_eq_getElem (by omega)⟩
   have aW : y < 2 ^ r := by
    have h1 := Jdk (β := 18446744073709551616) hy
    have h2 : y * 18446744073709551616 ^ k < 2 ^ r * 18446744073709551616 ^ k := by rw [Nat.mul_comm (2 ^ r)]; omega
    exact Nat.lt_of_mul_lt_mul_right h2
   have aE : y1 = 0 := by
    have h1 : dv 18446744073709551616 (l.drop (k + 1)) = 0 := by
     apply Yw o6 (by omega)
     rw [Nat.pow_succ]
     refine Nat.lt_of_lt_of_le p0 (Nat.mul_le_mul_left _ ?_)
     exact Nat.pow_le_pow_right (by omega) (show r <= 64 by omega)
    exact Jaj (by omega) h1 (k := 0) (by rw [List.getElem?_drop]; exact x9)
   subst aE
   obtain ⟨aF, o7⟩ := Jfa y x r aW l7
   obtain ⟨z, hz⟩ : ∃ z, y + x * 2 ^ r % 18446744073709551616 = z := ⟨_, rfl⟩
   obtain ⟨u, hu⟩ : ∃ u, x * 2 ^ r / 18446744073709551616 = u := ⟨_, rfl⟩
   rw [hz] at aF o7
   have p7 : u < 18446744073709551616 := by
    rw [<- hu, Nat.div_lt_iff_lt_mul (by omega)]
    exact Nat.mul_lt_mul'' x8 (Nat.pow_lt_pow_right (by omega) (show r < 64 by omega))
   have aG : (x : Int) / 2 ^ (64 - r) = (u : Int) := by
    rw [<- hu]
    have hs := Kl r (by omega)
    have e : x * 2 ^ r / 18446744073709551616 = x / 2 ^ (64 - r) := by
     conv => lhs; rw [hs, Nat.mul_comm x, Nat.mul_div_mul_left _ _ (Nat.pow_pos (by omega))]
    rw [e, Int.natCast_ediv, Int.natCast_pow]
    rfl
   have aH := j8.cell hy
   have bG := j8.frozen k
   have bH := j8.frozen (k + 1)
   have o8 := j8.cell x9
   have e8 := j8.set_ k z
   have p9 : (l.set k z)[k + 1]? = some 0 := by rw [List.getElem?_set_ne (by omega)]; exact x9
   have aI := e8.cell p9
   have bI := e8.frozen (k + 1)
   have l5 := e8.set_ (k + 1) u
   have e9 : dv 18446744073709551616 ((l.set k z).set (k + 1) u) = dv 18446744073709551616 (lX.take (i + 1)) * 2 ^ n := by
    have h1 := Yd (β := 18446744073709551616) z hy
    have h2 := Yd (β := 18446744073709551616) u p9
    have h3 := Je0 x r (18446744073709551616 ^ k)
    rw [hu] at h3
    have bJ : z * 18446744073709551616 ^ k = y * 18446744073709551616 ^ k + x * 2 ^ r % 18446744073709551616 * 18446744073709551616 ^ k := by rw [<- hz, Nat.add_mul]
    rw [bJ, hv] at h1
    rw [Nat.pow_succ] at h2
    rw [aV, Nat.add_mul]
    have h4 : x * 18446744073709551616 ^ i * 2 ^ n = x * 2 ^ r * 18446744073709551616 ^ k := by
     rw [HL.out.2.2.1, <- hk, Nat.pow_add, Nat.mul_assoc, Nat.mul_assoc, Nat.mul_comm (2 ^ r), Nat.mul_assoc]
    omega
   have j0 : Vx w g L (dv 18446744073709551616 (lX.take (i + 1)) * 2 ^ n) ((wr.setCell ⟨g, k, none⟩ (Jj z)).setCell ⟨g, k + 1, none⟩ (Jj u)) :=
    ⟨_, by rw [List.length_set, List.length_set]; exact hl, l5, (o6.set_ k o7).set_ (k + 1) p7, e9, (hb.setCell o9 _).setCell o9 _⟩
   have HFIN := lh j0
   have k1 : ((i : Int) + (h : Int)) = (k : Int) := by omega
   have k2 : (k : Int) + 1 < (L : Int) := by omega
   have k3 : (k : Int) < (L : Int) := by omega
   have k4 : (i : Int) < (p : Int) := by omega
   have k5 : (64 : Int) - (r : Int) = ((64 - r : Nat) : Int) := by omega
   have k6 : IntKind.u64.wrap (64 - (r : Int)) = ((64 - r : Nat) : Int) := by rw [Jc _ (by omega) (by omega)]; omega
   have k7 : (r : Int) <= 63 := by omega
   have k8 : ((k : Int) + 1).toNat = k + 1 := by omega
   unfold Jj at aD aH aI o8
   clear hz hu hx aV p0 hy x9 p9 e8 l5 e9 j0 hv hl o6 hb s9 k5 aW
   subst hA
   go_wp2
   exact ⟨⟨i + 1, by omega, by go_num, HFIN.out⟩, by simp [intOf]; omega⟩
  obtain rfl : i = p := by omega
  rw [List.take_of_length_le (by rw [HL.out.1]; omega)] at hv
  go_wp2
  go_ret
  exact ⟨g, l, rfl, hl, j8, o6, hv, hb, o9⟩
theorem Yr {l : List Nat} {k r x y R : Nat} (hr : r < 64) (hx : x < 18446744073709551616) (q8 : dv 18446744073709551616 (l.drop k) = x + 18446744073709551616 * (y + 18446744073709551616 * R)) :
  dv 18446744073709551616 (l.drop k) / 2 ^ r % 18446744073709551616 = x / 2 ^ r + y * 2 ^ (64 - r) % 18446744073709551616 /\ x / 2 ^ r < 2 ^ (64 - r) := by
 have hs := Kl r (by omega)
 have hp : 0 < 2 ^ r := Nat.pow_pos (by omega)
 have hq : 0 < 2 ^ (64 - r) := Nat.pow_pos (by omega)
 have bK : x / 2 ^ r < 2 ^ (64 - r) := by
  rw [Nat.div_lt_iff_lt_mul hp, Nat.mul_comm, <- hs]
  exact hx
 refine ⟨?_, bK⟩
 rw [q8]
 have e1 : x + 18446744073709551616 * (y + 18446744073709551616 * R) = x + 2 ^ r * (2 ^ (64 - r) * (y + 18446744073709551616 * R)) := by
  rw [<- Nat.mul_assoc, <- hs]
 rw [e1, Nat.add_mul_div_left _ _ hp]
 have e2 : x / 2 ^ r + 2 ^ (64 - r) * (y + 18446744073709551616 * R) = x / 2 ^ r + y * 2 ^ (64 - r) + 18446744073709551616 * (2 ^ (64 - r) * R) := by
  rw [Nat.mul_add, Nat.mul_comm y, Nat.mul_left_comm (2 ^ (64 - r))]
  omega
 rw [e2, Nat.add_mul_mod_self_left]
 have e3 : y * 2 ^ (64 - r) % 18446744073709551616 = 2 ^ (64 - r) * (y % 2 ^ r) := by
  conv => lhs; rw [hs, Nat.mul_comm (2 ^ r), Nat.mul_comm y, Nat.mul_mod_mul_left]
 have q9 : y % 2 ^ r < 2 ^ r := Nat.mod_lt _ hp
 have h2 : 2 ^ (64 - r) * (y % 2 ^ r) + 2 ^ (64 - r) <= 2 ^ (64 - r) * 2 ^ r := by
  rw [<- Nat.mul_succ]
  exact Nat.mul_le_mul_left _ q9
 rw [Nat.mul_comm (2 ^ (64 - r)) (2 ^ r), <- hs] at h2
 rw [Nat.add_mod, Nat.mod_eq_of_lt (show x / 2 ^ r < 18446744073709551616 by omega), Nat.mod_eq_of_lt (by rw [e3]; omega)]
theorem Jbn (u y r : Nat) (hu : u < 2 ^ (64 - r)) (hr : r < 64) : bits .or .u64 (u : Int) (IntKind.u64.wrap ((y : Int) * 2 ^ (64 - r))) = ((u + y * 2 ^ (64 - r) % 18446744073709551616 : Nat) : Int) /\ u + y * 2 ^ (64 - r) % 18446744073709551616 < 18446744073709551616 := by
 by_cases h0 : r = 0
 ·subst h0
  rw [Nat.sub_zero] at *
  have e : y * 2 ^ 64 % 18446744073709551616 = 0 := by rw [show (2 : Nat) ^ 64 = 18446744073709551616 from rfl, Nat.mul_mod_left]
  rw [show (y : Int) * 2 ^ 64 = ((y * 2 ^ 64 : Nat) : Int) from by rw [Int.natCast_mul, Int.natCast_pow]; rfl, Jg, e, Ul _ _ (by omega) (by omega), Nat.or_zero, Nat.add_zero]
  exact ⟨rfl, by omega⟩
 exact Jfa u y (64 - r) hu (by omega)
theorem Jcp (A : Option Addr) (p c B n : Nat) (lX : List Nat) (w : World) (hX : Reads w B 1 A p (lX.map Jj)) (hB : B <= w.heap.size) (hd : Dig 18446744073709551616 lX) (hp : p <= 8796093022208) (hn : n <= 1099511627776) (bL : n / 64 < p) :
  Calls Tryz.prog 174 #[.slice A p c, .int .i64 (n : Int)] w (Jlv w (dv 18446744073709551616 lX / 2 ^ n) (p - n / 64)) := by
 have hlx := hX.lenf
 obtain ⟨h, hh⟩ : ∃ h, n / 64 = h := ⟨_, rfl⟩
 obtain ⟨r, hr⟩ : ∃ r, n % 64 = r := ⟨_, rfl⟩
 have p8 : n = 64 * h + r := by omega
 have l7 : r < 64 := by omega
 have j9 : (2 : Nat) ^ n = 18446744073709551616 ^ h * 2 ^ r := by rw [p8, Nat.pow_add, Nat.pow_mul]
 have c1 : (n : Int) / 64 = (h : Int) := by omega
 have c2 : (n : Int) % 64 = (r : Int) := by omega
 rw [hh] at bL
 obtain ⟨L, hL⟩ : ∃ L, p - h = L := ⟨_, rfl⟩
 have c3 : (p : Int) - (h : Int) = (L : Int) := by omega
 have c4 : ¬ (p : Int) <= (h : Int) := by omega
 rw [hh, hL]
 have aC := Ql (P := Tryz.prog) Jj 0 178 59 8 Tryz.underlying178 Tryz.infoU64 rfl .i64 .i64 L (by omega) (by omega)
 obtain ⟨M, hM⟩ : ∃ M, dv 18446744073709551616 lX / 2 ^ n = M := ⟨_, rfl⟩
 rw [hM]
 have bM : M < 18446744073709551616 ^ L := by
  rw [<- hM, j9, <- Nat.div_div_eq_div_mul, Zh hd (by omega)]
  have h1 := Xf (hd.drop h)
  rw [List.length_drop, hlx, hL] at h1
  exact Nat.lt_of_le_of_lt (Nat.div_le_self _ _) h1
 have HL := lh (And.intro hlx (And.intro hL (And.intro j9 (And.intro p8 hM))))
 have bE : IntKind.u64.wrap (r : Int) = (r : Int) := Jc _ (by omega) (by omega)
 have bY : L <= p := by omega
 have aX : p = L + h := by omega
 clear hlx hh hr j9 hL p8 hM
 go_enter Tryz.func174, Tryz.ntmps174
 have HPL := lh aX
 clear aX
 go_wp2_with fail
 clear aC c1 c2 c3 c4
 have j7 := Row.rep w 59 Jj 0 L
 have o0 := Jb w (.cells (Array.replicate L (Jj 0)) 59)
 obtain ⟨g, hg⟩ : ∃ g, w.heap.size = g := ⟨_, rfl⟩
 have HG := lh hg
 rw [hg] at j7
 rw [hg]
 have o9 : w.heap.size <= g := by omega
 clear hg
 go_loopw [8, 25] (fun _ i wr => ∃ k : Nat, k <= L /\ i = .int .i64 k /\ Vx w g L (M % 18446744073709551616 ^ k) wr) (fun _ i _ => L - (intOf i).toNat)
 case atStart => exact ⟨0, Nat.zero_le _, rfl, _, by simp, j7, Dig.rep (by omega) _, by rw [Yo]; simp [Nat.mod_one], o0⟩
 case round =>
  obtain ⟨i, hi, rfl, l, hl, j8, o6, hv, hb⟩ := hrel
  clear j7 o0
  by_cases q9 : i < L
  ·have s9 := hX.below (hb.mono hB)
   obtain ⟨k, hk⟩ : ∃ k, i + h = k := ⟨_, rfl⟩
   have bN : k < p := by have := HPL.out; omega
   obtain ⟨ad, x, hA, bF, hx, aD⟩ := s9.atf bN
   have x8 := hd.get hx
   obtain ⟨v0, t7⟩ : ∃ v0, l[i]? = some v0 := ⟨_, List.getElem?_eq_getElem (by omega)⟩
   have aJ : v0 = 0 := by
    have h1 : dv 18446744073709551616 (l.drop i) = 0 := by
     apply Yw o6 (by omega)
     rw [hv]
     exact Nat.mod_lt _ (Nat.pow_pos (by omega))
    exact Jaj (by omega) h1 (k := 0) (by rw [List.getElem?_drop]; exact t7)
   subst aJ
   have y8 : M / 18446744073709551616 ^ i = dv 18446744073709551616 (lX.drop k) / 2 ^ r := by
    rw [<- HL.out.2.2.2.2, HL.out.2.2.1, Nat.div_div_eq_div_mul, <- hk, <- Zh hd (by omega), Nat.div_div_eq_div_mul, Nat.pow_add]
    congr 1
    rw [Nat.mul_comm (18446744073709551616 ^ h), Nat.mul_assoc, Nat.mul_comm (2 ^ r), Nat.mul_comm (18446744073709551616 ^ h)]
   have bZ : ((i : Int) + (h : Int)) = (k : Int) := by omega
   have aH := j8.cell t7
   have bG := j8.frozen i
   obtain ⟨u, hu⟩ : ∃ u, x / 2 ^ r = u := ⟨_, rfl⟩
   have aG : (x : Int) / 2 ^ r = (u : Int) := by
    rw [<- hu, Int.natCast_ediv, Int.natCast_pow]
    rfl
   have k3 : (k : Int) < (p : Int) := by omega
   have k4 : (i : Int) < (L : Int) := by omega
   have k7 : (r : Int) <= 63 := by omega
   have k9 : (64 : Int) - (r : Int) = ((64 - r : Nat) : Int) := by omega
   have k6 : IntKind.u64.wrap (64 - (r : Int)) = ((64 - r : Nat) : Int) := by rw [Jc _ (by omega) (by omega)]; omega
   unfold Jj at aD aH
   clear k9
   subst hA
   by_cases aK : k + 1 < p
   ·obtain ⟨ad2, y, aL, bO, hy, o8⟩ := s9.atf aK
    injection aL with aL
    subst aL
    have q8 : dv 18446744073709551616 (lX.drop k) = x + 18446744073709551616 * (y + 18446744073709551616 * dv 18446744073709551616 (lX.drop (k + 1 + 1))) := by
     rw [Jv hx, Jv hy]
    obtain ⟨j6, p7⟩ := Yr l7 x8 q8
    rw [hu] at j6 p7
    obtain ⟨aF, o7⟩ := Jbn u y r p7 l7
    obtain ⟨z, hz⟩ : ∃ z, u + y * 2 ^ (64 - r) % 18446744073709551616 = z := ⟨_, rfl⟩
    rw [hz] at aF o7 j6
    have e9 : dv 18446744073709551616 (l.set i z) = M % 18446744073709551616 ^ (i + 1) := by
     have h1 := Yd (β := 18446744073709551616) z t7
     rw [Nat.mod_pow_succ, y8, j6, <- hv]
     rw [Nat.mul_comm (18446744073709551616 ^ i)]
     omega
    have t8 : u < 18446744073709551616 := by
     have := Nat.pow_le_pow_right (show 0 < 2 by omega) (show 64 - r <= 64 by omega)
     omega
    have e8 := j8.set_ i u
    have l5 := e8.set_ i z
    rw [List.set_set] at l5
    have aY : (l.set i u)[i]? = some u := by rw [List.getElem?_set_self (by omega)]
    have bP := e8.cell aY
    have cA := e8.frozen i
    have u4 : (wr.setCell ⟨g, i, none⟩ (Jj u)).cell? (ad.add (k + 1)) = some (Jj y) := by
     rw [World.cell?_setCell_other _ _ _ _ (fun e => by have h9 := congrArg Addr.block e; rw [Jz] at h9; simp at h9; have := s9.2 (by omega); omega)]
     exact o8
    have aM : (wr.setCell ⟨g, i, none⟩ (Jj u)).cell? ⟨ad.block, ad.off + (k + 1), none⟩ = some (Jj y) := by
     have h9 := u4
     unfold Addr.add at h9
     rw [if_neg (by omega)] at h9
     exact h9
    have j0 : Vx w g L (M % 18446744073709551616 ^ (i + 1)) (((wr.setCell ⟨g, i, none⟩ (Jj u)).drew).setCell ⟨g, i, none⟩ (Jj z)) :=
     ⟨_, by rw [List.length_set]; exact hl, l5, o6.set_ i o7, e9, Jx ((hb.setCell o9 _).setCell o9 _) 1⟩
    have HFIN := lh j0
    unfold Jj at bP u4 o8 aM
    have k10 : (k : Int) + 1 < (p : Int) := by omega
    have k11 : ((k : Int) + 1).toNat = k + 1 := by omega
    clear j6 p7 hz e9 e8 l5 j0 aY hu t7 hx hy hv hl o6 hb y8 q8
    go_wp2_with fail
    go_region
    go_wp2
    exact ⟨⟨i + 1, by omega, by go_num, HFIN.out⟩, by simp [intOf]; omega⟩
   have q8 : dv 18446744073709551616 (lX.drop k) = x + 18446744073709551616 * (0 + 18446744073709551616 * 0) := by
    rw [Jv hx, Qv (by rw [HL.out.1]; omega)]
   obtain ⟨j6, p7⟩ := Yr l7 x8 q8
   rw [hu, Nat.zero_mul, Nat.zero_mod, Nat.add_zero] at j6
   rw [hu] at p7
   have t8 : u < 18446744073709551616 := by
    have := Nat.pow_le_pow_right (show 0 < 2 by omega) (show 64 - r <= 64 by omega)
    omega
   have e9 : dv 18446744073709551616 (l.set i u) = M % 18446744073709551616 ^ (i + 1) := by
    have h1 := Yd (β := 18446744073709551616) u t7
    rw [Nat.mod_pow_succ, y8, j6, <- hv]
    rw [Nat.mul_comm (18446744073709551616 ^ i)]
    omega
   have j0 : Vx w g L (M % 18446744073709551616 ^ (i + 1)) (wr.setCell ⟨g, i, none⟩ (Jj u)) :=
    ⟨_, by rw [List.length_set]; exact hl, j8.set_ i u, o6.set_ i t8, e9, hb.setCell o9 _⟩
   have HFIN := lh j0
   have k10 : ¬ (k : Int) + 1 < (p : Int) := by omega
   clear j6 p7 e9 j0 hu t7 hx hv hl o6 hb y8 q8
   go_wp2
   exact ⟨⟨i + 1, by omega, by go_num, HFIN.out⟩, by simp [intOf]; omega⟩
  obtain rfl : i = L := by omega
  rw [Nat.mod_eq_of_lt bM] at hv
  go_wp2
  go_ret
  exact ⟨g, l, rfl, hl, j8, o6, hv, hb, o9⟩
theorem Jd2 (a n : Nat) (w : World) (ha : Je a <= 1099511627776) (hn : n <= 65536) : Calls Tryz.prog 141 #[Jh a, .int .i64 (n : Int)] w (Ret (Jh (a * 2 ^ n)) w) := by
 have cB := Qm a ha
 unfold Jh
 obtain ⟨b0, b1, hB, hZ⟩ := bx2 w 61 #[.int .u64 (lo a : Int), .string (mo a)] 61 #[.int .u64 0, .string ⟨#[]⟩]
 have m1 : ¬ (65536 : Int) < (n : Int) := by omega
 have m2 : (-65536 : Int) < (n : Int) := by omega
 have m3 : ¬ (n : Int) < -65536 := by omega
 have m4 : min (n : Int) 65536 = (n : Int) := by omega
 have m5 : max (-65536) (n : Int) = (n : Int) := by omega
 have m6 : (if (65536 : Int) < (n : Int) then (65536 : Int) else (n : Int)) = (n : Int) := by rw [if_neg m1]
 have m7 : (if (65536 : Nat) < n then (65536 : Int) else (n : Int)) = (n : Int) := by rw [if_neg (by omega)]
 have m8 : ¬ (n : Int) < 0 := by omega
 go_enter Tryz.func141, Tryz.ntmps141
 go_wp2_with fail
 clear m4 m5 m6 m7
 generalize ((w.alloc (.cells #[.int .u64 (lo a : Int), .string (mo a)] 61)).alloc (.cells #[.int .u64 0, .string ⟨#[]⟩] 61)) = W at *
 refine (Xe a W (by omega) (by omega)).mono ?_
 rintro e w1 ⟨v1, rfl, y9, aN, bQ⟩
 have b1 := b1.below aN b1.lt
 have bR := Ja hB aN
 obtain ⟨A1, c1, aZ, cC, cD⟩ := y9.form
 rw [aZ] at y9 ⊢
 have aO := Own.reads y9
 have bS := Jm a
 have bA := Jk a
 generalize Jf a = l at *
 have HL := lh aO.lenf
 have HV := lh bA
 clear aZ y9 bQ aN bA
 generalize l.length = p at *
 go_wp2_with fail
 refine (Um A1 p c1 _ n l w1 aO zd bS (by omega) (by omega)).mono ?_
 rintro e w2 ⟨g, l2, rfl, bB, j8, bT, aP, aQ, cE⟩
 have b1 := b1.below aQ b1.lt
 have bU := Ja bR aQ
 have aA := j8.reads
 rw [bB] at aA
 obtain ⟨L, hL⟩ : ∃ L, p + n / 64 + 1 = L := ⟨_, rfl⟩
 rw [hL] at aA ⊢
 have cF : L <= 17592186044416 := by omega
 rw [HV.out] at aP
 have HV2 := lh aP
 clear bB hL aP aQ
 go_wp2_with fail
 refine (Qc _ L L _ l2 w2 aA j8.lt bT (by omega) zd).mono ?_
 rintro e w3 ⟨rfl, bC⟩
 rw [HV2.out]
 have bV := Ja bU bC
 (try clear aR aS aT aU u5 x7); obtain ⟨b1, aR, aS, aT, aU, u5, x7⟩ := b1.zf2 bC
 clear aA aO
 unfold Jh
 generalize a * 2 ^ n = N at *
 go_wp2
 refine bodyPost_ret (v := .agg #[.int .u64 (lo N : Int), .string (mo N)]) (by simp [results, Tryz.results141, go_sem, u5, x7]) rfl ?_
 exact ⟨rfl, Xg bV (by omega) _ _⟩
