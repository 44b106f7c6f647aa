import Derived.Test.YtecnjlcfoobepaaGreatDoorNatC
import Derived.RegionTactic
import Derived.BigRegion
namespace Go.Proofs.YtecnjlcfoobepaaGreatDoor
set_option maxRecDepth 100000
set_option maxHeartbeats 1000000
open Go.RowKit
set_option linter.unusedSimpArgs false
set_option linter.unusedVariables false
theorem pow_split (r : Nat) (h : r <= 64) : (18446744073709551616 : Nat) = 2 ^ r * 2 ^ (64 - r) := by rw [<- Nat.pow_add, show r + (64 - r) = 64 from by omega]
theorem or_shift (y x r : Nat) (hy : y < 2 ^ r) (hr : r < 64) : bits .or .u64 (y : Int) (IntKind.u64.wrap ((x : Int) * 2 ^ r)) = ((y + x * 2 ^ r % 18446744073709551616 : Nat) : Int) /\ y + x * 2 ^ r % 18446744073709551616 < 18446744073709551616 := by
 have hs := pow_split r (by omega)
 have hp : 0 < 2 ^ r := Nat.pow_pos (by omega)
 have e1 : x * 2 ^ r % 18446744073709551616 = 2 ^ r * (x % 2 ^ (64 - r)) := by
  conv => lhs; rw [hs, Nat.mul_comm x, Nat.mul_mod_mul_left]
 have hlt : x % 2 ^ (64 - r) < 2 ^ (64 - r) := Nat.mod_lt _ (Nat.pow_pos (by omega))
 have h2 : 2 ^ r * (x % 2 ^ (64 - r)) + 2 ^ r <= 2 ^ r * 2 ^ (64 - r) := by
  rw [<- Nat.mul_succ]
  exact Nat.mul_le_mul_left _ hlt
 rw [<- hs] at h2
 have hmod : x * 2 ^ r % 18446744073709551616 < 18446744073709551616 := Nat.mod_lt _ (by omega)
 have hyb : y < 18446744073709551616 := by omega
 refine ⟨?_, by rw [e1]; omega⟩
 rw [show (x : Int) * 2 ^ r = ((x * 2 ^ r : Nat) : Int) from by rw [Int.natCast_mul, Int.natCast_pow]; rfl, wrap_u64_nat, or_u64 _ _ hyb hmod, e1, Nat.add_comm y, Nat.two_pow_add_eq_or_of_lt hy, Nat.or_comm]
theorem shift_parts (x r P : Nat) : x * 2 ^ r % 18446744073709551616 * P + x * 2 ^ r / 18446744073709551616 * (P * 18446744073709551616) = x * 2 ^ r * P := by
 have h := Nat.div_add_mod (x * 2 ^ r) 18446744073709551616
 generalize x * 2 ^ r = z at *
 conv => rhs; rw [<- h]
 rw [Nat.add_mul, Nat.mul_comm (18446744073709551616 * _) P, <- Nat.mul_assoc P, Nat.mul_comm (z / _) (P * _), Nat.add_comm]
theorem nat_shiftUp (A : Option Addr) (p c B n : Nat) (lX : List Nat) (w : World) (hX : Reads w B 1 A p (lX.map u64v)) (hB : B <= w.heap.size) (hd : Dig 18446744073709551616 lX) (hp : p <= 8796093022208) (hn : n <= 1099511627776) :
  Calls Tryz.prog 164 #[.slice A p c, .int .i64 (n : Int)] w (NewW w (dv 18446744073709551616 lX * 2 ^ n) (p + n / 64 + 1)) := by
 have hlx := hX.lenf
 obtain ⟨h, hh⟩ : ∃ h, n / 64 = h := ⟨_, rfl⟩
 obtain ⟨r, hr⟩ : ∃ r, n % 64 = r := ⟨_, rfl⟩
 have hnn : n = 64 * h + r := by omega
 have hr64 : r < 64 := by omega
 have hpow : (2 : Nat) ^ n = 18446744073709551616 ^ h * 2 ^ r := by rw [hnn, Nat.pow_add, Nat.pow_mul]
 have c1 : (n : Int) / 64 = (h : Int) := by omega
 have c2 : (n : Int) % 64 = (r : Int) := by omega
 obtain ⟨L, hL⟩ : ∃ L, p + h + 1 = L := ⟨_, rfl⟩
 have c3 : (p : Int) + (h : Int) + 1 = (L : Int) := by omega
 have hhb : h <= 17179869184 := by omega
 rw [hh, hL]
 have hmk := make_row (P := Tryz.prog) u64v 0 170 50 8 Tryz.underlying170 Tryz.infoU64 rfl .i64 .i64 L (by omega) (by omega)
 have HL := lh (And.intro hlx (And.intro hL (And.intro hpow hnn)))
 have hwr : IntKind.u64.wrap (r : Int) = (r : Int) := wrap_u64_of _ (by omega) (by omega)
 clear hlx hh hr hpow hL hnn
 go_enter Tryz.func164, Tryz.ntmps164
 go_wp2_with fail
 clear hmk c1 c2 c3
 have hrow := Row.rep w 50 u64v 0 L
 have hbel := balloc1 w (.cells (Array.replicate L (u64v 0)) 50)
 obtain ⟨g, hg⟩ : ∃ g, w.heap.size = g := ⟨_, rfl⟩
 have HG := lh hg
 rw [hg] at hrow
 rw [hg]
 have hgg : w.heap.size <= g := by omega
 clear hg
 go_loopw [8, 9, 23] (fun _ _ i wr => ∃ k : Nat, k <= p /\ i = .int .i64 k /\ MulRel w g L (dv 18446744073709551616 (lX.take k) * 2 ^ n) wr) (fun _ _ i _ => p - (intOf i).toNat)
 case atStart => exact ⟨0, Nat.zero_le _, rfl, _, by simp, hrow, Dig.rep (by omega) _, by rw [dv_rep]; simp [dv], hbel⟩
 case round =>
  obtain ⟨i, hi, rfl, l, hl, hro, hdl, hv, hb⟩ := hrel
  clear hrow hbel
  by_cases hlt : i < p
  ·have hX2 := hX.below (hb.mono hB)
   obtain ⟨ad, x, hA, hab, hx, hcx⟩ := hX2.atf hlt
   have hxl := hd.get hx
   have htk := dv_take_succ (β := 18446744073709551616) hx
   obtain ⟨k, hk⟩ : ∃ k, i + h = k := ⟨_, rfl⟩
   have hkL : k + 1 < L := by have := HL.out.2.1; omega
   have hdvlt : dv 18446744073709551616 l < 18446744073709551616 ^ k * 2 ^ r := by
    rw [hv, HL.out.2.2.1, <- Nat.mul_assoc]
    have h1 := dv_lt (hd.take i)
    rw [List.length_take, HL.out.1, Nat.min_eq_left (by omega)] at h1
    refine Nat.mul_lt_mul_of_pos_right ?_ (Nat.pow_pos (by omega))
    rw [<- hk, Nat.pow_add]
    exact Nat.mul_lt_mul_of_pos_right h1 (Nat.pow_pos (by omega))
   obtain ⟨y, hy⟩ : ∃ y, l[k]? = some y := ⟨_, List.getElem?_eq_getElem (by omega)⟩
   obtain ⟨y1, hy1⟩ : ∃ y1, l[k + 1]? = some y1 := ⟨_, List.getElem?_eq_getElem (by omega)⟩
   have hyr : y < 2 ^ r := by
    have h1 := dv_ge (β := 18446744073709551616) hy
    have h2 : y * 18446744073709551616 ^ k < 2 ^ r * 18446744073709551616 ^ k := by rw [Nat.mul_comm (2 ^ r)]; omega
    exact Nat.lt_of_mul_lt_mul_right h2
   have hy10 : y1 = 0 := by
    have h1 : dv 18446744073709551616 (l.drop (k + 1)) = 0 := by
     apply dv_high hdl (by omega)
     rw [Nat.pow_succ]
     refine Nat.lt_of_lt_of_le hdvlt (Nat.mul_le_mul_left _ ?_)
     exact Nat.pow_le_pow_right (by omega) (show r <= 64 by omega)
    exact dv_zero (by omega) h1 (k := 0) (by rw [List.getElem?_drop]; exact hy1)
   subst hy10
   obtain ⟨hor, horl⟩ := or_shift y x r hyr hr64
   obtain ⟨z, hz⟩ : ∃ z, y + x * 2 ^ r % 18446744073709551616 = z := ⟨_, rfl⟩
   obtain ⟨u, hu⟩ : ∃ u, x * 2 ^ r / 18446744073709551616 = u := ⟨_, rfl⟩
   rw [hz] at hor horl
   have hul : u < 18446744073709551616 := by
    rw [<- hu, Nat.div_lt_iff_lt_mul (by omega)]
    exact Nat.mul_lt_mul'' hxl (Nat.pow_lt_pow_right (by omega) (show r < 64 by omega))
   have hshr : (x : Int) / 2 ^ (64 - r) = (u : Int) := by
    rw [<- hu]
    have hs := pow_split r (by omega)
    have e : x * 2 ^ r / 18446744073709551616 = x / 2 ^ (64 - r) := by
     conv => lhs; rw [hs, Nat.mul_comm x, Nat.mul_div_mul_left _ _ (Nat.pow_pos (by omega))]
    rw [e, Int.natCast_ediv, Int.natCast_pow]
    rfl
   have hcy := hro.cell hy
   have hfy := hro.frozen k
   have hfy2 := hro.frozen (k + 1)
   have hcy2 := hro.cell hy1
   have hro1 := hro.set_ k z
   have hy1' : (l.set k z)[k + 1]? = some 0 := by rw [List.getElem?_set_ne (by omega)]; exact hy1
   have hcy1 := hro1.cell hy1'
   have hfy1 := hro1.frozen (k + 1)
   have hro2 := hro1.set_ (k + 1) u
   have hnew : dv 18446744073709551616 ((l.set k z).set (k + 1) u) = dv 18446744073709551616 (lX.take (i + 1)) * 2 ^ n := by
    have h1 := dv_set (β := 18446744073709551616) z hy
    have h2 := dv_set (β := 18446744073709551616) u hy1'
    have h3 := shift_parts x r (18446744073709551616 ^ k)
    rw [hu] at h3
    have hz' : z * 18446744073709551616 ^ k = y * 18446744073709551616 ^ k + x * 2 ^ r % 18446744073709551616 * 18446744073709551616 ^ k := by rw [<- hz, Nat.add_mul]
    rw [hz', hv] at h1
    rw [Nat.pow_succ] at h2
    rw [htk, Nat.add_mul]
    have h4 : x * 18446744073709551616 ^ i * 2 ^ n = x * 2 ^ r * 18446744073709551616 ^ k := by
     rw [HL.out.2.2.1, <- hk, Nat.pow_add, Nat.mul_assoc, Nat.mul_assoc, Nat.mul_comm (2 ^ r), Nat.mul_assoc]
    omega
   have hfin : MulRel w g L (dv 18446744073709551616 (lX.take (i + 1)) * 2 ^ n) ((wr.setCell ⟨g, k, none⟩ (u64v z)).setCell ⟨g, k + 1, none⟩ (u64v u)) :=
    ⟨_, by rw [List.length_set, List.length_set]; exact hl, hro2, (hdl.set_ k horl).set_ (k + 1) hul, hnew, (hb.setCell hgg _).setCell hgg _⟩
   have HFIN := lh hfin
   have k1 : ((i : Int) + (h : Int)) = (k : Int) := by omega
   have k2 : (k : Int) + 1 < (L : Int) := by omega
   have k3 : (k : Int) < (L : Int) := by omega
   have k4 : (i : Int) < (p : Int) := by omega
   have k5 : (64 : Int) - (r : Int) = ((64 - r : Nat) : Int) := by omega
   have k6 : IntKind.u64.wrap (64 - (r : Int)) = ((64 - r : Nat) : Int) := by rw [wrap_u64_of _ (by omega) (by omega)]; omega
   have k7 : (r : Int) <= 63 := by omega
   have k8 : ((k : Int) + 1).toNat = k + 1 := by omega
   unfold u64v at hcx hcy hcy1 hcy2
   clear hz hu hx htk hdvlt hy hy1 hy1' hro1 hro2 hnew hfin hv hl hdl hb hX2 k5 hyr
   subst hA
   go_wp2
   exact ⟨⟨i + 1, by omega, by go_num, HFIN.out⟩, by simp [intOf]; omega⟩
  obtain rfl : i = p := by omega
  rw [List.take_of_length_le (by rw [HL.out.1]; omega)] at hv
  go_wp2
  go_ret
  exact ⟨g, l, rfl, hl, hro, hdl, hv, hb, hgg⟩
theorem shift_digit {l : List Nat} {k r x y R : Nat} (hr : r < 64) (hx : x < 18446744073709551616) (hdr : dv 18446744073709551616 (l.drop k) = x + 18446744073709551616 * (y + 18446744073709551616 * R)) :
  dv 18446744073709551616 (l.drop k) / 2 ^ r % 18446744073709551616 = x / 2 ^ r + y * 2 ^ (64 - r) % 18446744073709551616 /\ x / 2 ^ r < 2 ^ (64 - r) := by
 have hs := pow_split r (by omega)
 have hp : 0 < 2 ^ r := Nat.pow_pos (by omega)
 have hq : 0 < 2 ^ (64 - r) := Nat.pow_pos (by omega)
 have hxr : x / 2 ^ r < 2 ^ (64 - r) := by
  rw [Nat.div_lt_iff_lt_mul hp, Nat.mul_comm, <- hs]
  exact hx
 refine ⟨?_, hxr⟩
 rw [hdr]
 have e1 : x + 18446744073709551616 * (y + 18446744073709551616 * R) = x + 2 ^ r * (2 ^ (64 - r) * (y + 18446744073709551616 * R)) := by
  rw [<- Nat.mul_assoc, <- hs]
 rw [e1, Nat.add_mul_div_left _ _ hp]
 have e2 : x / 2 ^ r + 2 ^ (64 - r) * (y + 18446744073709551616 * R) = x / 2 ^ r + y * 2 ^ (64 - r) + 18446744073709551616 * (2 ^ (64 - r) * R) := by
  rw [Nat.mul_add, Nat.mul_comm y, Nat.mul_left_comm (2 ^ (64 - r))]
  omega
 rw [e2, Nat.add_mul_mod_self_left]
 have e3 : y * 2 ^ (64 - r) % 18446744073709551616 = 2 ^ (64 - r) * (y % 2 ^ r) := by
  conv => lhs; rw [hs, Nat.mul_comm (2 ^ r), Nat.mul_comm y, Nat.mul_mod_mul_left]
 have hlt : y % 2 ^ r < 2 ^ r := Nat.mod_lt _ hp
 have h2 : 2 ^ (64 - r) * (y % 2 ^ r) + 2 ^ (64 - r) <= 2 ^ (64 - r) * 2 ^ r := by
  rw [<- Nat.mul_succ]
  exact Nat.mul_le_mul_left _ hlt
 rw [Nat.mul_comm (2 ^ (64 - r)) (2 ^ r), <- hs] at h2
 rw [Nat.add_mod, Nat.mod_eq_of_lt (show x / 2 ^ r < 18446744073709551616 by omega), Nat.mod_eq_of_lt (by rw [e3]; omega)]
theorem or_shift64 (u y r : Nat) (hu : u < 2 ^ (64 - r)) (hr : r < 64) : bits .or .u64 (u : Int) (IntKind.u64.wrap ((y : Int) * 2 ^ (64 - r))) = ((u + y * 2 ^ (64 - r) % 18446744073709551616 : Nat) : Int) /\ u + y * 2 ^ (64 - r) % 18446744073709551616 < 18446744073709551616 := by
 by_cases h0 : r = 0
 ·subst h0
  rw [Nat.sub_zero] at *
  have e : y * 2 ^ 64 % 18446744073709551616 = 0 := by rw [show (2 : Nat) ^ 64 = 18446744073709551616 from rfl, Nat.mul_mod_left]
  rw [show (y : Int) * 2 ^ 64 = ((y * 2 ^ 64 : Nat) : Int) from by rw [Int.natCast_mul, Int.natCast_pow]; rfl, wrap_u64_nat, e, or_u64 _ _ (by omega) (by omega), Nat.or_zero, Nat.add_zero]
  exact ⟨rfl, by omega⟩
 exact or_shift u y (64 - r) hu (by omega)
theorem nat_shiftDown (A : Option Addr) (p c B n : Nat) (lX : List Nat) (w : World) (hX : Reads w B 1 A p (lX.map u64v)) (hB : B <= w.heap.size) (hd : Dig 18446744073709551616 lX) (hp : p <= 8796093022208) (hn : n <= 1099511627776) (hnp : n / 64 < p) :
  Calls Tryz.prog 167 #[.slice A p c, .int .i64 (n : Int)] w (NewW w (dv 18446744073709551616 lX / 2 ^ n) (p - n / 64)) := by
 have hlx := hX.lenf
 obtain ⟨h, hh⟩ : ∃ h, n / 64 = h := ⟨_, rfl⟩
 obtain ⟨r, hr⟩ : ∃ r, n % 64 = r := ⟨_, rfl⟩
 have hnn : n = 64 * h + r := by omega
 have hr64 : r < 64 := by omega
 have hpow : (2 : Nat) ^ n = 18446744073709551616 ^ h * 2 ^ r := by rw [hnn, Nat.pow_add, Nat.pow_mul]
 have c1 : (n : Int) / 64 = (h : Int) := by omega
 have c2 : (n : Int) % 64 = (r : Int) := by omega
 rw [hh] at hnp
 obtain ⟨L, hL⟩ : ∃ L, p - h = L := ⟨_, rfl⟩
 have c3 : (p : Int) - (h : Int) = (L : Int) := by omega
 have c4 : ¬ (p : Int) <= (h : Int) := by omega
 rw [hh, hL]
 have hmk := make_row (P := Tryz.prog) u64v 0 170 50 8 Tryz.underlying170 Tryz.infoU64 rfl .i64 .i64 L (by omega) (by omega)
 obtain ⟨M, hM⟩ : ∃ M, dv 18446744073709551616 lX / 2 ^ n = M := ⟨_, rfl⟩
 rw [hM]
 have hML : M < 18446744073709551616 ^ L := by
  rw [<- hM, hpow, <- Nat.div_div_eq_div_mul, dv_div hd (by omega)]
  have h1 := dv_lt (hd.drop h)
  rw [List.length_drop, hlx, hL] at h1
  exact Nat.lt_of_le_of_lt (Nat.div_le_self _ _) h1
 have HL := lh (And.intro hlx (And.intro hL (And.intro hpow (And.intro hnn hM))))
 have hwr : IntKind.u64.wrap (r : Int) = (r : Int) := wrap_u64_of _ (by omega) (by omega)
 have hLp : L <= p := by omega
 have hpL : p = L + h := by omega
 clear hlx hh hr hpow hL hnn hM
 go_enter Tryz.func167, Tryz.ntmps167
 have HPL := lh hpL
 clear hpL
 go_wp2_with fail
 clear hmk c1 c2 c3 c4
 have hrow := Row.rep w 50 u64v 0 L
 have hbel := balloc1 w (.cells (Array.replicate L (u64v 0)) 50)
 obtain ⟨g, hg⟩ : ∃ g, w.heap.size = g := ⟨_, rfl⟩
 have HG := lh hg
 rw [hg] at hrow
 rw [hg]
 have hgg : w.heap.size <= g := by omega
 clear hg
 go_loopw [8, 25] (fun _ i wr => ∃ k : Nat, k <= L /\ i = .int .i64 k /\ MulRel w g L (M % 18446744073709551616 ^ k) wr) (fun _ i _ => L - (intOf i).toNat)
 case atStart => exact ⟨0, Nat.zero_le _, rfl, _, by simp, hrow, Dig.rep (by omega) _, by rw [dv_rep]; simp [Nat.mod_one], hbel⟩
 case round =>
  obtain ⟨i, hi, rfl, l, hl, hro, hdl, hv, hb⟩ := hrel
  clear hrow hbel
  by_cases hlt : i < L
  ·have hX2 := hX.below (hb.mono hB)
   obtain ⟨k, hk⟩ : ∃ k, i + h = k := ⟨_, rfl⟩
   have hkp : k < p := by have := HPL.out; omega
   obtain ⟨ad, x, hA, hab, hx, hcx⟩ := hX2.atf hkp
   have hxl := hd.get hx
   obtain ⟨v0, hv0⟩ : ∃ v0, l[i]? = some v0 := ⟨_, List.getElem?_eq_getElem (by omega)⟩
   have hv00 : v0 = 0 := by
    have h1 : dv 18446744073709551616 (l.drop i) = 0 := by
     apply dv_high hdl (by omega)
     rw [hv]
     exact Nat.mod_lt _ (Nat.pow_pos (by omega))
    exact dv_zero (by omega) h1 (k := 0) (by rw [List.getElem?_drop]; exact hv0)
   subst hv00
   have hMd : M / 18446744073709551616 ^ i = dv 18446744073709551616 (lX.drop k) / 2 ^ r := by
    rw [<- HL.out.2.2.2.2, HL.out.2.2.1, Nat.div_div_eq_div_mul, <- hk, <- dv_div hd (by omega), Nat.div_div_eq_div_mul, Nat.pow_add]
    congr 1
    rw [Nat.mul_comm (18446744073709551616 ^ h), Nat.mul_assoc, Nat.mul_comm (2 ^ r), Nat.mul_comm (18446744073709551616 ^ h)]
   have hk1 : ((i : Int) + (h : Int)) = (k : Int) := by omega
   have hcy := hro.cell hv0
   have hfy := hro.frozen i
   obtain ⟨u, hu⟩ : ∃ u, x / 2 ^ r = u := ⟨_, rfl⟩
   have hshr : (x : Int) / 2 ^ r = (u : Int) := by
    rw [<- hu, Int.natCast_ediv, Int.natCast_pow]
    rfl
   have k3 : (k : Int) < (p : Int) := by omega
   have k4 : (i : Int) < (L : Int) := by omega
   have k7 : (r : Int) <= 63 := by omega
   have k9 : (64 : Int) - (r : Int) = ((64 - r : Nat) : Int) := by omega
   have k6 : IntKind.u64.wrap (64 - (r : Int)) = ((64 - r : Nat) : Int) := by rw [wrap_u64_of _ (by omega) (by omega)]; omega
   unfold u64v at hcx hcy
   clear k9
   subst hA
   by_cases hk1p : k + 1 < p
   ·obtain ⟨ad2, y, hA2, hab2, hy, hcy2⟩ := hX2.atf hk1p
    injection hA2 with hA2
    subst hA2
    have hdr : dv 18446744073709551616 (lX.drop k) = x + 18446744073709551616 * (y + 18446744073709551616 * dv 18446744073709551616 (lX.drop (k + 1 + 1))) := by
     rw [dv_drop hx, dv_drop hy]
    obtain ⟨hdig, hul⟩ := shift_digit hr64 hxl hdr
    rw [hu] at hdig hul
    obtain ⟨hor, horl⟩ := or_shift64 u y r hul hr64
    obtain ⟨z, hz⟩ : ∃ z, u + y * 2 ^ (64 - r) % 18446744073709551616 = z := ⟨_, rfl⟩
    rw [hz] at hor horl hdig
    have hnew : dv 18446744073709551616 (l.set i z) = M % 18446744073709551616 ^ (i + 1) := by
     have h1 := dv_set (β := 18446744073709551616) z hv0
     rw [Nat.mod_pow_succ, hMd, hdig, <- hv]
     rw [Nat.mul_comm (18446744073709551616 ^ i)]
     omega
    have hul2 : u < 18446744073709551616 := by
     have := Nat.pow_le_pow_right (show 0 < 2 by omega) (show 64 - r <= 64 by omega)
     omega
    have hro1 := hro.set_ i u
    have hro2 := hro1.set_ i z
    rw [List.set_set] at hro2
    have hu' : (l.set i u)[i]? = some u := by rw [List.getElem?_set_self (by omega)]
    have hcu := hro1.cell hu'
    have hfu := hro1.frozen i
    have hcy3 : (wr.setCell ⟨g, i, none⟩ (u64v u)).cell? (ad.add (k + 1)) = some (u64v y) := by
     rw [World.cell?_setCell_other _ _ _ _ (fun e => by have h9 := congrArg Addr.block e; rw [block_of_add] at h9; simp at h9; have := hX2.2 (by omega); omega)]
     exact hcy2
    have hcy4 : (wr.setCell ⟨g, i, none⟩ (u64v u)).cell? ⟨ad.block, ad.off + (k + 1), none⟩ = some (u64v y) := by
     have h9 := hcy3
     unfold Addr.add at h9
     rw [if_neg (by omega)] at h9
     exact h9
    have hfin : MulRel w g L (M % 18446744073709551616 ^ (i + 1)) (((wr.setCell ⟨g, i, none⟩ (u64v u)).drew).setCell ⟨g, i, none⟩ (u64v z)) :=
     ⟨_, by rw [List.length_set]; exact hl, hro2, hdl.set_ i horl, hnew, bdrewN ((hb.setCell hgg _).setCell hgg _) 1⟩
    have HFIN := lh hfin
    unfold u64v at hcu hcy3 hcy2 hcy4
    have k10 : (k : Int) + 1 < (p : Int) := by omega
    have k11 : ((k : Int) + 1).toNat = k + 1 := by omega
    clear hdig hul hz hnew hro1 hro2 hfin hu' hu hv0 hx hy hv hl hdl hb hMd hdr
    go_wp2_with fail
    go_region
    go_wp2
    exact ⟨⟨i + 1, by omega, by go_num, HFIN.out⟩, by simp [intOf]; omega⟩
   have hdr : dv 18446744073709551616 (lX.drop k) = x + 18446744073709551616 * (0 + 18446744073709551616 * 0) := by
    rw [dv_drop hx, dv_drop_out (by rw [HL.out.1]; omega)]
   obtain ⟨hdig, hul⟩ := shift_digit hr64 hxl hdr
   rw [hu, Nat.zero_mul, Nat.zero_mod, Nat.add_zero] at hdig
   rw [hu] at hul
   have hul2 : u < 18446744073709551616 := by
    have := Nat.pow_le_pow_right (show 0 < 2 by omega) (show 64 - r <= 64 by omega)
    omega
   have hnew : dv 18446744073709551616 (l.set i u) = M % 18446744073709551616 ^ (i + 1) := by
    have h1 := dv_set (β := 18446744073709551616) u hv0
    rw [Nat.mod_pow_succ, hMd, hdig, <- hv]
    rw [Nat.mul_comm (18446744073709551616 ^ i)]
    omega
   have hfin : MulRel w g L (M % 18446744073709551616 ^ (i + 1)) (wr.setCell ⟨g, i, none⟩ (u64v u)) :=
    ⟨_, by rw [List.length_set]; exact hl, hro.set_ i u, hdl.set_ i hul2, hnew, hb.setCell hgg _⟩
   have HFIN := lh hfin
   have k10 : ¬ (k : Int) + 1 < (p : Int) := by omega
   clear hdig hul hnew hfin hu hv0 hx hv hl hdl hb hMd hdr
   go_wp2
   exact ⟨⟨i + 1, by omega, by go_num, HFIN.out⟩, by simp [intOf]; omega⟩
  obtain rfl : i = L := by omega
  rw [Nat.mod_eq_of_lt hML] at hv
  go_wp2
  go_ret
  exact ⟨g, l, rfl, hl, hro, hdl, hv, hb, hgg⟩
theorem nat_shift_up (a n : Nat) (w : World) (ha : blen a <= 1099511627776) (hn : n <= 65536) : Calls Tryz.prog 150 #[natV a, .int .i64 (n : Int)] w (Ret (natV (a * 2 ^ n)) w) := by
 have hwa := words_len_b a ha
 unfold natV
 have b0 := (Blk.new w  52 #[.int .u64 (lo a : Int), .string (mo a)]).alloc (.cells #[.int .u64 0, .string ⟨#[]⟩] 52); have b1 := Blk.new2 w (.cells #[.int .u64 (lo a : Int), .string (mo a)] 52) 52 #[.int .u64 0, .string ⟨#[]⟩]; have hB := balloc2 w (.cells #[.int .u64 (lo a : Int), .string (mo a)] 52) (.cells #[.int .u64 0, .string ⟨#[]⟩] 52); have hZ := lh (show ((w.alloc (.cells #[.int .u64 (lo a : Int), .string (mo a)] 52)).alloc (.cells #[.int .u64 0, .string ⟨#[]⟩] 52)).heap.size = w.heap.size + 1 + 1 from by simp)
 have m1 : ¬ (65536 : Int) < (n : Int) := by omega
 have m2 : (-65536 : Int) < (n : Int) := by omega
 have m3 : ¬ (n : Int) < -65536 := by omega
 have m4 : min (n : Int) 65536 = (n : Int) := by omega
 have m5 : max (-65536) (n : Int) = (n : Int) := by omega
 have m6 : (if (65536 : Int) < (n : Int) then (65536 : Int) else (n : Int)) = (n : Int) := by rw [if_neg m1]
 have m7 : (if (65536 : Nat) < n then (65536 : Int) else (n : Int)) = (n : Int) := by rw [if_neg (by omega)]
 have m8 : ¬ (n : Int) < 0 := by omega
 go_enter Tryz.func150, Tryz.ntmps150
 go_wp2_with fail
 clear m4 m5 m6 m7
 generalize ((w.alloc (.cells #[.int .u64 (lo a : Int), .string (mo a)] 52)).alloc (.cells #[.int .u64 0, .string ⟨#[]⟩] 52)) = W at *
 refine (nat_words a W (by omega) (by omega)).mono ?_
 rintro e w1 ⟨v1, rfl, ho1, hb1, hf1⟩
 have b1 := b1.below hb1 b1.lt
 have hB1 := bthen hB hb1
 obtain ⟨A1, c1, hv1, hc1, hc2⟩ := ho1.form
 rw [hv1] at ho1 ⊢
 have hr1 := Own.reads ho1
 have hd1 := words_dig a
 have hdv := dv_words a
 generalize words a = l at *
 have HL := lh hr1.lenf
 have HV := lh hdv
 clear hv1 ho1 hf1 hb1 hdv
 generalize l.length = p at *
 go_wp2_with fail
 refine (nat_shiftUp A1 p c1 _ n l w1 hr1 zd hd1 (by omega) (by omega)).mono ?_
 rintro e w2 ⟨g, l2, rfl, hl2, hro, hd2, hv2, hb2, hg2⟩
 have b1 := b1.below hb2 b1.lt
 have hB2 := bthen hB1 hb2
 have hrd := hro.reads
 rw [hl2] at hrd
 obtain ⟨L, hL⟩ : ∃ L, p + n / 64 + 1 = L := ⟨_, rfl⟩
 rw [hL] at hrd ⊢
 have hLb : L <= 17592186044416 := by omega
 rw [HV.out] at hv2
 have HV2 := lh hv2
 clear hl2 hL hv2 hb2
 go_wp2_with fail
 refine (nat_fromWords _ L L _ l2 w2 hrd hro.lt hd2 (by omega) zd).mono ?_
 rintro e w3 ⟨rfl, hb3⟩
 rw [HV2.out]
 have hB3 := bthen hB2 hb3
 (try clear b1q0 b1q1 b1f0 b1f1 b1s0 b1s1); have b1 := b1.below hb3 b1.lt; obtain ⟨b1q0, b1q1, b1f0, b1f1, b1s0, b1s1⟩ := b1.f2
 clear hrd hr1
 unfold natV
 generalize a * 2 ^ n = N at *
 go_wp2
 refine bodyPost_ret (v := .agg #[.int .u64 (lo N : Int), .string (mo N)]) (by simp [results, Tryz.results150, go_sem, b1s0, b1s1]) rfl ?_
 exact ⟨rfl, bset2 hB3 (by omega) _ _⟩
end Go.Proofs.YtecnjlcfoobepaaGreatDoor
