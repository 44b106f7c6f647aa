import Derived.Test.YtecnjlcfoobepaaGreatDoorShifts
import Derived.Deep.CutBlock
import Derived.Deep.QuietTactic
import Derived.BigQuiet
namespace Go.Proofs.YtecnjlcfoobepaaGreatDoor
set_option maxRecDepth 100000
set_option maxHeartbeats 1000000
open Go.RowKit
set_option linter.unusedSimpArgs false
set_option linter.unusedVariables false
def β0 : Nat := 4294967296
theorem gi_quot {β v1 v0 u u0 g R : Nat} (h : GI β v1 v0 u u0 g R) (hgb : g < β) (hv0 : v0 < β) (hg : β <= R \/ g * v0 <= R * β + u0) (hT : u * β + u0 < β * (v1 * β + v0)) : g = (u * β + u0) / (v1 * β + v0) := by
 have h1 := gi_done h hgb hv0 hg
 have hD : 0 < v1 * β + v0 := by
  rcases Nat.eq_zero_or_pos (v1 * β + v0) with h0 | h0
  ·rw [h0] at hT; simp at hT
  exact h0
 have h2 : u * β + u0 < (g + 1) * (v1 * β + v0) := by
  by_cases h3 : g + 1 < β
  ·exact h.2 h3
  obtain rfl : β = g + 1 := by omega
  exact hT
 symm
 rw [Nat.div_eq_iff hD]
 rw [Nat.add_mul] at h2
 omega
theorem and_u64_mask (m : Nat) (h : m < 18446744073709551616) : bits .and .u64 (m : Int) 4294967295 = ((m % 4294967296 : Nat) : Int) := by
 have e := and_u64 m 4294967295 h (by omega)
 rw [show ((4294967295 : Nat) : Int) = 4294967295 from rfl] at e
 rw [e, show (4294967295 : Nat) = 2 ^ 32 - 1 from rfl, Nat.and_two_pow_sub_one_eq_mod]
theorem div64_math (hi lo y s Y U V yn1 yn0 u1 u0 q1 r1 q0 : Nat) (hs : s < 64) (hy : y < 18446744073709551616) (hlo : lo < 18446744073709551616) (hhi : hi < y) (hY : y * 2 ^ s = Y) (hY1 : 9223372036854775808 <= Y) (hY2 : Y < 18446744073709551616)
  (hU : hi * 2 ^ s + lo / 2 ^ (64 - s) = U) (hV : lo * 2 ^ s % 18446744073709551616 = V) (h1 : Y / 4294967296 = yn1) (h0 : Y % 4294967296 = yn0) (hu1 : V / 4294967296 = u1) (hu0 : V % 4294967296 = u0)
  (hq1 : (U * 4294967296 + u1) / Y = q1) (hr1 : (U * 4294967296 + u1) % Y = r1) (hq0 : (r1 * 4294967296 + u0) / Y = q0) :
  U < Y /\ q1 < 4294967296 /\ q0 < 4294967296 /\ q1 * 4294967296 + q0 = (hi * 18446744073709551616 + lo) / y /\ (r1 * 4294967296 + u0 - q0 * Y) / 2 ^ s = (hi * 18446744073709551616 + lo) % y := by
 have hp : 0 < 2 ^ s := Nat.pow_pos (by omega)
 have hsp := pow_split s (by omega)
 have hUV : U * 18446744073709551616 + V = (hi * 18446744073709551616 + lo) * 2 ^ s := by
  have e1 : lo / 2 ^ (64 - s) = lo * 2 ^ s / 18446744073709551616 := by
   conv => rhs; rw [hsp, Nat.mul_comm lo, Nat.mul_div_mul_left _ _ hp]
  have e2 := Nat.div_add_mod (lo * 2 ^ s) 18446744073709551616
  rw [<- e1, hV] at e2
  rw [<- hU, Nat.add_mul, Nat.add_mul, Nat.mul_right_comm]
  omega
 have hUY : U < Y := by
  have h3 : hi * 18446744073709551616 + lo < y * 18446744073709551616 := by
   omega
  have h4 := Nat.mul_lt_mul_of_pos_right h3 hp
  have h6 : y * 18446744073709551616 * 2 ^ s = Y * 18446744073709551616 := by rw [<- hY, Nat.mul_right_comm]
  rw [<- hUV, h6] at h4
  clear hsp hUV hV hU
  omega
 have hY0 : 0 < Y := by omega
 have hd1 := Nat.div_add_mod (U * 4294967296 + u1) Y
 rw [hq1, hr1] at hd1
 have hr1l : r1 < Y := by rw [<- hr1]; exact Nat.mod_lt _ hY0
 have hq1l : q1 < 4294967296 := by
  rw [<- hq1, Nat.div_lt_iff_lt_mul hY0]
  omega
 have hd0 := Nat.div_add_mod (r1 * 4294967296 + u0) Y
 rw [hq0] at hd0
 have hr0l : (r1 * 4294967296 + u0) % Y < Y := Nat.mod_lt _ hY0
 have hq0l : q0 < 4294967296 := by
  rw [<- hq0, Nat.div_lt_iff_lt_mul hY0]
  omega
 obtain ⟨r0, hr0⟩ : ∃ r0, (r1 * 4294967296 + u0) % Y = r0 := ⟨_, rfl⟩
 rw [hr0] at hd0 hr0l
 have htot : (hi * 18446744073709551616 + lo) * 2 ^ s = (q1 * 4294967296 + q0) * Y + r0 := by
  rw [<- hUV, Nat.add_mul]
  have e3 : q1 * 4294967296 * Y = Y * q1 * 4294967296 := by rw [Nat.mul_comm Y, Nat.mul_right_comm]
  have e4 : q0 * Y = Y * q0 := Nat.mul_comm _ _
  omega
 have hrs : r1 * 4294967296 + u0 - q0 * Y = r0 := by
  have e4 : q0 * Y = Y * q0 := Nat.mul_comm _ _
  omega
 refine ⟨hUY, hq1l, hq0l, ?_, ?_⟩
 ·symm
  have h3 : (hi * 18446744073709551616 + lo) / y = (hi * 18446744073709551616 + lo) * 2 ^ s / Y := by
   rw [<- hY, Nat.mul_div_mul_right _ _ hp]
  rw [h3, htot, Nat.add_comm, Nat.add_mul_div_right _ _ hY0, Nat.div_eq_of_lt hr0l, Nat.zero_add]
 rw [hrs]
 have h3 : (hi * 18446744073709551616 + lo) % y * 2 ^ s = r0 := by
  rw [<- Nat.mul_mod_mul_right, hY, htot, Nat.add_comm, Nat.add_mul_mod_self_right, Nat.mod_eq_of_lt hr0l]
 rw [<- h3, Nat.mul_div_cancel _ hp]
theorem div64_zero (lo y : Nat) (w : World) (hlo : lo < 18446744073709551616) (hy0 : 0 < y) (hy : y < 18446744073709551616) :
  Calls Tryz.prog 162 #[.int .u64 0, .int .u64 (lo : Int), .int .u64 (y : Int)] w fun e w' => e = .returned (.tuple #[.int .u64 ((lo / y : Nat) : Int), .int .u64 ((lo % y : Nat) : Int)]) /\ ∃ n, w' = w.drewN n := by
 have h1 : ((y : Int) == 0) = false := by simp; omega
 have h2 : ¬ (y : Int) <= 0 := by omega
 have h3 : (0 : Int) < (y : Int) := by omega
 obtain ⟨q, hq⟩ : ∃ q, lo / y = q := ⟨_, rfl⟩
 obtain ⟨r, hr⟩ : ∃ r, lo % y = r := ⟨_, rfl⟩
 rw [hq, hr]
 have hq2 : (lo : Int).tdiv (y : Int) = (q : Int) := by rw [<- hq]; rfl
 have hr2 : (lo : Int).tmod (y : Int) = (r : Int) := by rw [<- hr]; rfl
 have hq3 : (lo : Int) / (y : Int) = (q : Int) := by rw [<- hq]; rfl
 have hr3 : (lo : Int) % (y : Int) = (r : Int) := by rw [<- hr]; rfl
 have hqb : q < 18446744073709551616 := by rw [<- hq]; exact Nat.lt_of_le_of_lt (Nat.div_le_self _ _) hlo
 have hrb : r < 18446744073709551616 := by rw [<- hr]; exact Nat.lt_of_le_of_lt (Nat.mod_le _ _) hlo
 have k1 : IntKind.u64.wrap (q : Int) = (q : Int) := wrap_u64_of _ (by omega) (by omega)
 have k2 : IntKind.u64.wrap (r : Int) = (r : Int) := wrap_u64_of _ (by omega) (by omega)
 have hyne : ¬ (y : Int) = 0 := by omega
 clear hq hr
 go_enter Tryz.func162, Tryz.ntmps162
 go_wp2_with fail
 go_quiet (fail)
 go_wp2
 go_ret2
 exact ⟨rfl, _, rfl⟩
theorem or_top (h t s : Nat) (hs : s < 64) (ht : t < 2 ^ s) (hb : h * 2 ^ s + t < 18446744073709551616) : bits .or .u64 ((h * 2 ^ s : Nat) : Int) (t : Int) = ((h * 2 ^ s + t : Nat) : Int) := by
 rw [or_u64 _ _ (by omega) (by omega), Nat.mul_comm, Nat.two_pow_add_eq_or_of_lt ht]
theorem div64_pos (hi lo y : Nat) (w : World) (hlo : lo < 18446744073709551616) (hy : y < 18446744073709551616) (hhi0 : 0 < hi) (hhi : hi < y) :
  Calls Tryz.prog 162 #[.int .u64 (hi : Int), .int .u64 (lo : Int), .int .u64 (y : Int)] w fun e w' => e = .returned (.tuple #[.int .u64 (((hi * 18446744073709551616 + lo) / y : Nat) : Int), .int .u64 (((hi * 18446744073709551616 + lo) % y : Nat) : Int)]) /\ ∃ n, w' = w.drewN n := by
 have hbl : 1 <= blen y /\ 2 ^ (blen y - 1) <= y /\ y < 2 ^ blen y := blen_bounds y (by omega)
 have hb64 := blen_small y hy
 obtain ⟨s, hs⟩ : ∃ s, 64 - blen y = s := ⟨_, rfl⟩
 have hs64 : s < 64 := by omega
 obtain ⟨Y, hY⟩ : ∃ Y, y * 2 ^ s = Y := ⟨_, rfl⟩
 have hY2 : Y < 18446744073709551616 := by
  rw [<- hY]
  have := Nat.mul_lt_mul_of_pos_right hbl.2.2 (show 0 < 2 ^ s from Nat.pow_pos (by omega))
  rw [<- Nat.pow_add, show blen y + s = 64 from by omega] at this
  exact this
 have hY1 : 9223372036854775808 <= Y := by
  rw [<- hY]
  have := Nat.mul_le_mul_right (2 ^ s) hbl.2.1
  rw [<- Nat.pow_add, show blen y - 1 + s = 63 from by omega] at this
  exact this
 obtain ⟨U, hU⟩ : ∃ U, hi * 2 ^ s + lo / 2 ^ (64 - s) = U := ⟨_, rfl⟩
 obtain ⟨V, hV⟩ : ∃ V, lo * 2 ^ s % 18446744073709551616 = V := ⟨_, rfl⟩
 obtain ⟨yn1, h1⟩ : ∃ yn1, Y / 4294967296 = yn1 := ⟨_, rfl⟩
 obtain ⟨yn0, h0⟩ : ∃ yn0, Y % 4294967296 = yn0 := ⟨_, rfl⟩
 obtain ⟨u1, hu1⟩ : ∃ u1, V / 4294967296 = u1 := ⟨_, rfl⟩
 obtain ⟨u0, hu0⟩ : ∃ u0, V % 4294967296 = u0 := ⟨_, rfl⟩
 obtain ⟨q1, hq1⟩ : ∃ q1, (U * 4294967296 + u1) / Y = q1 := ⟨_, rfl⟩
 obtain ⟨r1, hr1⟩ : ∃ r1, (U * 4294967296 + u1) % Y = r1 := ⟨_, rfl⟩
 obtain ⟨q0, hq0⟩ : ∃ q0, (r1 * 4294967296 + u0) / Y = q0 := ⟨_, rfl⟩
 obtain ⟨m1, m2, m3, m4, m5⟩ := div64_math hi lo y s Y U V yn1 yn0 u1 u0 q1 r1 q0 hs64 hy hlo hhi hY hY1 hY2 hU hV h1 h0 hu1 hu0 hq1 hr1 hq0
 have hr1l : r1 < Y := by rw [<- hr1]; exact Nat.mod_lt _ (by omega)
 have hVl : V < 18446744073709551616 := by rw [<- hV]; exact Nat.mod_lt _ (by omega)
 obtain ⟨t, ht⟩ : ∃ t, lo / 2 ^ (64 - s) = t := ⟨_, rfl⟩
 have htl : t < 2 ^ s := by
  rw [<- ht, Nat.div_lt_iff_lt_mul (Nat.pow_pos (by omega)), <- pow_split s (by omega)]
  exact hlo
 obtain ⟨H, hH⟩ : ∃ H, hi * 2 ^ s = H := ⟨_, rfl⟩
 rw [ht] at hU
 have e0 : ((y : Int) == 0) = false := by simp; omega
 have e1 : ¬ (y : Int) <= (hi : Int) := by omega
 have e2 : ((hi : Int) == 0) = false := by simp; omega
 have hbit : (64 : Int) - (Lib.bitLen (y : Int).toNat : Int) = (s : Int) := by
  rw [Int.toNat_natCast, bitLen_eq y hy]
  omega
 have f1 : IntKind.u64.wrap (s : Int) = (s : Int) := wrap_u64_of _ (by omega) (by omega)
 have f2 : IntKind.u64.wrap ((y : Int) * 2 ^ s) = (Y : Int) := by
  rw [show (y : Int) * 2 ^ s = ((y * 2 ^ s : Nat) : Int) from by rw [Int.natCast_mul, Int.natCast_pow]; rfl, hY, wrap_u64_of _ (by omega) (by omega)]
 have f3 : (Y : Int) / 4294967296 = (yn1 : Int) := by omega
 have f4 : bits .and .u64 (Y : Int) 4294967295 = (yn0 : Int) := by rw [and_u64_mask Y hY2, h0]
 have f5 : IntKind.u64.wrap ((hi : Int) * 2 ^ s) = (H : Int) := by
  rw [show (hi : Int) * 2 ^ s = ((hi * 2 ^ s : Nat) : Int) from by rw [Int.natCast_mul, Int.natCast_pow]; rfl, hH, wrap_u64_of _ (by omega) (by omega)]
 have f6 : IntKind.u64.wrap (64 - (s : Int)) = ((64 - s : Nat) : Int) := by rw [wrap_u64_of _ (by omega) (by omega)]; omega
 have f7 : (lo : Int) / 2 ^ (64 - s) = (t : Int) := by
  rw [<- ht, Int.natCast_ediv, Int.natCast_pow]
  rfl
 have f8 : bits .or .u64 (H : Int) (t : Int) = (U : Int) := by
  have := or_top hi t s hs64 htl (by omega)
  rw [hH] at this
  rw [this]
  omega
 have f9 : IntKind.u64.wrap ((lo : Int) * 2 ^ s) = (V : Int) := by
  rw [show (lo : Int) * 2 ^ s = ((lo * 2 ^ s : Nat) : Int) from by rw [Int.natCast_mul, Int.natCast_pow]; rfl, wrap_u64_nat, hV]
 have f10 : (V : Int) / 4294967296 = (u1 : Int) := by omega
 have f11 : bits .and .u64 (V : Int) 4294967295 = (u0 : Int) := by rw [and_u64_mask V hVl, hu0]
 have hyn1 : 2147483648 <= yn1 := by omega
 have hyn1b : yn1 < 4294967296 := by omega
 have hyn0 : yn0 < 4294967296 := by omega
 have hu1b : u1 < 4294967296 := by omega
 have hu0b : u0 < 4294967296 := by omega
 have hYd : yn1 * 4294967296 + yn0 = Y := by rw [<- h1, <- h0, Nat.mul_comm]; exact Nat.div_add_mod Y 4294967296
 have hUb : U < (yn1 + 1) * 4294967296 := by omega
 have HM := lh (And.intro m4 (And.intro m5 (And.intro hq1 (And.intro hr1 (And.intro hq0 hYd)))))
 have hs63 : (s : Int) <= 63 := by omega
 have HB := lh hbit
 clear hs hbl hb64 hY hU hV h1 h0 hu1 hu0 hq1 hr1 hq0 m4 m5 ht hH hYd hbit
 have hgi := gi_div (β := 4294967296) (v1 := yn1) (v0 := yn0) (u := U) (u0 := u1) (by omega) hu1b
 obtain ⟨g0, hg0⟩ : ∃ g0, U / yn1 = g0 := ⟨_, rfl⟩
 obtain ⟨R0, hR0⟩ : ∃ R0, U % yn1 = R0 := ⟨_, rfl⟩
 have hR0l : R0 < yn1 := by rw [<- hR0]; exact Nat.mod_lt _ (by omega)
 have hg0b : g0 < 18446744073709551616 := by rw [<- hg0]; exact Nat.lt_of_le_of_lt (Nat.div_le_self _ _) (by omega)
 have hgR : yn1 * g0 + R0 = U := by rw [<- hg0, <- hR0]; exact Nat.div_add_mod U yn1
 obtain ⟨P0, hP0⟩ : ∃ P0, g0 * yn1 = P0 := ⟨_, rfl⟩
 have hP0b : P0 + R0 = U := by rw [<- hP0, Nat.mul_comm]; exact hgR
 have f12 : (U : Int) / (yn1 : Int) = (g0 : Int) := by rw [<- hg0]; rfl
 have f13 : IntKind.u64.wrap ((g0 : Int) * (yn1 : Int)) = (P0 : Int) := by
  rw [show (g0 : Int) * (yn1 : Int) = ((g0 * yn1 : Nat) : Int) from by rw [Int.natCast_mul], hP0, wrap_u64_of _ (by omega) (by omega)]
 have f14 : IntKind.u64.wrap ((U : Int) - (P0 : Int)) = (R0 : Int) := by rw [wrap_u64_of _ (by omega) (by omega)]; omega
 have hynz : ¬ (yn1 : Int) = 0 := by omega
 rw [hg0, hR0] at hgi
 have HGI := lh hgi
 clear hgi hg0 hR0 hgR hP0 hP0b
 go_enter Tryz.func162, Tryz.ntmps162
 go_wp2_with fail
 refine (Tryz.bits_LeadingZeros64 (y : Int) w (by omega) (by omega)).mono ?_
 rintro e w1 ⟨rfl, rfl⟩
 rw [HB.out]
 have HT15 : Hid (U * 4294967296 + u1 < 4294967296 * (yn1 * 4294967296 + yn0)) := by
  show _ < _
  rw [HM.out.2.2.2.2.2]
  omega
 have HQ15 : Hid ((U * 4294967296 + u1) / (yn1 * 4294967296 + yn0) = q1) := by
  show _ = _
  rw [HM.out.2.2.2.2.2]
  exact HM.out.2.2.1
 have HT18 : Hid (r1 * 4294967296 + u0 < 4294967296 * (yn1 * 4294967296 + yn0)) := by
  show _ < _
  rw [HM.out.2.2.2.2.2]
  omega
 have HQ18 : Hid ((r1 * 4294967296 + u0) / (yn1 * 4294967296 + yn0) = q0) := by
  show _ = _
  rw [HM.out.2.2.2.2.2]
  exact HM.out.2.2.2.2.1
 go_upto_block 0 with fail
 clear e0 e1 e2 f2 f3 f4 f5 f6 f7 f8 f9 f10 f11 f12 f13 f14 f1 HB
 go_cut [15] (fun v wc => wc = w1 /\ v = .int .u64 (q1 : Int))
 case first =>
  go_wp2_with fail
  go_loop [15, 16] (fun a b => ∃ g R : Nat, g < 18446744073709551616 /\ R < 4294967296 /\ a = .int .u64 (g : Int) /\ b = .int .u64 (R : Int) /\ Hid (GI 4294967296 yn1 yn0 U u1 g R)) (fun a _ => (intOf a).toNat)
  case atStart => exact ⟨_, _, by omega, by omega, rfl, rfl, HGI⟩
  case round =>
   obtain ⟨g, R, hgb, hRb, rfl, rfl, HG⟩ := hrel
   clear HGI
   have hstep : (β0 <= g \/ R * β0 + u1 < g * yn0) -> 0 < g /\ (β0 <= R + yn1 -> g - 1 = q1) := by
    intro hc
    have hg0 : 0 < g := by
     rcases hc with h | h
     ·unfold β0 at h; omega
     rcases Nat.eq_zero_or_pos g with h0 | h0
     ·subst h0
      rw [Nat.zero_mul] at h
      omega
     exact h0
    refine ⟨hg0, fun hR => ?_⟩
    have hG2 := gi_dec HG.out hc hg0
    have hlt := gi_lt hG2 hR (show U < (yn1 + 1) * β0 by unfold β0; omega)
    have := gi_quot hG2 hlt hyn0 (.inl hR) (by have := HT15.out; exact this)
    rw [this]
    exact HQ15.out
   by_cases hc : 4294967296 <= g
   ·obtain ⟨hg0, hend⟩ := hstep (.inl hc)
    have HG2 := lh (gi_dec HG.out (.inl hc) hg0)
    have d1 : (4294967296 : Int) <= (g : Int) := by omega
    have d2 : IntKind.u64.wrap ((g : Int) - 1) = ((g - 1 : Nat) : Int) := by rw [wrap_u64_of _ (by omega) (by omega)]; omega
    have d3 : IntKind.u64.wrap ((R : Int) + (yn1 : Int)) = ((R + yn1 : Nat) : Int) := by rw [wrap_u64_of _ (by omega) (by omega)]; omega
    have HEND := lh hend
    clear hstep hend
    obtain ⟨g', hg'⟩ : ∃ g', g - 1 = g' := ⟨_, rfl⟩
    obtain ⟨R', hR'⟩ : ∃ R', R + yn1 = R' := ⟨_, rfl⟩
    rw [hg'] at d2
    rw [hR'] at d3
    have hgg : g' < g := by omega
    rw [hg', hR'] at HG2 HEND
    clear hg' hR'
    by_cases hR : 4294967296 <= R'
    ·have d4 : (4294967296 : Int) <= (R' : Int) := by omega
     go_wp2
     go_meet
     exact ⟨rfl, by rw [HEND.out hR]⟩
    have d4 : ¬ (4294967296 : Int) <= (R' : Int) := by omega
    go_wp2
    exact ⟨⟨g', R', by omega, by omega, rfl, rfl, HG2⟩, by simp [intOf]; omega⟩
   have d1 : ¬ (4294967296 : Int) <= (g : Int) := by omega
   obtain ⟨P, hP⟩ : ∃ P, g * yn0 = P := ⟨_, rfl⟩
   have hPb : P < 18446744073709551616 := by
    rw [<- hP]
    exact Nat.lt_of_le_of_lt (Nat.mul_le_mul (show g <= 4294967295 by omega) (show yn0 <= 4294967295 by omega)) (by decide)
   have d2 : IntKind.u64.wrap ((g : Int) * (yn0 : Int)) = (P : Int) := by
    rw [show (g : Int) * (yn0 : Int) = ((g * yn0 : Nat) : Int) from by rw [Int.natCast_mul], hP, wrap_u64_of _ (by omega) (by omega)]
   obtain ⟨K, hK⟩ : ∃ K, R * 4294967296 + u1 = K := ⟨_, rfl⟩
   have d3 : IntKind.u64.wrap (4294967296 * (R : Int)) = 4294967296 * (R : Int) := wrap_u64_of _ (by omega) (by omega)
   have d4 : IntKind.u64.wrap (4294967296 * (R : Int) + (u1 : Int)) = (K : Int) := by rw [wrap_u64_of _ (by omega) (by omega)]; omega
   have hPK : (R * 4294967296 + u1 < g * yn0) ↔ K < P := by rw [hP, hK]
   by_cases hc2 : K < P
   ·obtain ⟨hg0, hend⟩ := hstep (.inr (hPK.2 hc2))
    have HG2 := lh (gi_dec HG.out (.inr (hPK.2 hc2)) hg0)
    have d5 : (K : Int) < (P : Int) := by omega
    have d6 : IntKind.u64.wrap ((g : Int) - 1) = ((g - 1 : Nat) : Int) := by rw [wrap_u64_of _ (by omega) (by omega)]; omega
    have d7 : IntKind.u64.wrap ((R : Int) + (yn1 : Int)) = ((R + yn1 : Nat) : Int) := by rw [wrap_u64_of _ (by omega) (by omega)]; omega
    have HEND := lh hend
    clear hstep hend hP hK hPK
    obtain ⟨g', hg'⟩ : ∃ g', g - 1 = g' := ⟨_, rfl⟩
    obtain ⟨R', hR'⟩ : ∃ R', R + yn1 = R' := ⟨_, rfl⟩
    rw [hg'] at d6
    rw [hR'] at d7
    have hgg : g' < g := by omega
    rw [hg', hR'] at HG2 HEND
    clear hg' hR'
    by_cases hR : 4294967296 <= R'
    ·have d8 : (4294967296 : Int) <= (R' : Int) := by omega
     go_wp2
     go_meet
     exact ⟨rfl, by rw [HEND.out hR]⟩
    have d8 : ¬ (4294967296 : Int) <= (R' : Int) := by omega
    go_wp2
    exact ⟨⟨g', R', by omega, by omega, rfl, rfl, HG2⟩, by simp [intOf]; omega⟩
   have d5 : ¬ (K : Int) < (P : Int) := by omega
   have hfin : g = q1 := by
    have := gi_quot HG.out (by omega) hyn0 (.inr (by rw [hP, hK]; omega)) (by have := HT15.out; exact this)
    rw [this]
    exact HQ15.out
   have HFIN := lh hfin
   clear hfin hstep hP hK hPK
   go_wp2
   go_meet
   exact ⟨rfl, by rw [HFIN.out]⟩
 case rest =>
  obtain ⟨rfl, rfl⟩ := hcut
  clear HGI hR0l hg0b hUb
  obtain ⟨A1, hA1⟩ : ∃ A1, U * 4294967296 % 18446744073709551616 = A1 := ⟨_, rfl⟩
  obtain ⟨A2, hA2⟩ : ∃ A2, (A1 + u1) % 18446744073709551616 = A2 := ⟨_, rfl⟩
  obtain ⟨PQ, hPQ⟩ : ∃ PQ, q1 * Y = PQ := ⟨_, rfl⟩
  obtain ⟨A3, hA3⟩ : ∃ A3, PQ % 18446744073709551616 = A3 := ⟨_, rfl⟩
  have htot : U * 4294967296 + u1 = PQ + r1 := by
   have h := Nat.div_add_mod (U * 4294967296 + u1) Y
   rw [HM.out.2.2.1, HM.out.2.2.2.1, Nat.mul_comm, hPQ] at h
   omega
  have f1 : IntKind.u64.wrap ((U : Int) * 4294967296) = (A1 : Int) := by
   rw [show (U : Int) * 4294967296 = ((U * 4294967296 : Nat) : Int) from by omega, wrap_u64_nat, hA1]
  have f2 : IntKind.u64.wrap ((A1 : Int) + (u1 : Int)) = (A2 : Int) := by
   rw [show (A1 : Int) + (u1 : Int) = ((A1 + u1 : Nat) : Int) from by omega, wrap_u64_nat, hA2]
  have f3 : IntKind.u64.wrap ((q1 : Int) * (Y : Int)) = (A3 : Int) := by
   rw [show (q1 : Int) * (Y : Int) = ((q1 * Y : Nat) : Int) from by rw [Int.natCast_mul], hPQ, wrap_u64_nat, hA3]
  have f4 : IntKind.u64.wrap ((A2 : Int) - (A3 : Int)) = (r1 : Int) := by
   simp only [IntKind.wrap, IntKind.bits, IntKind.signed]
   simp
   omega
  have hgi := gi_div (β := 4294967296) (v1 := yn1) (v0 := yn0) (u := r1) (u0 := u0) (by omega) hu0b
  obtain ⟨g1, hg1⟩ : ∃ g1, r1 / yn1 = g1 := ⟨_, rfl⟩
  obtain ⟨R1, hR1⟩ : ∃ R1, r1 % yn1 = R1 := ⟨_, rfl⟩
  have hR1l : R1 < yn1 := by rw [<- hR1]; exact Nat.mod_lt _ (by omega)
  have hg1b : g1 < 18446744073709551616 := by rw [<- hg1]; exact Nat.lt_of_le_of_lt (Nat.div_le_self _ _) (by omega)
  have hgR : yn1 * g1 + R1 = r1 := by rw [<- hg1, <- hR1]; exact Nat.div_add_mod r1 yn1
  obtain ⟨P1, hP1⟩ : ∃ P1, g1 * yn1 = P1 := ⟨_, rfl⟩
  have hP1b : P1 + R1 = r1 := by rw [<- hP1, Nat.mul_comm]; exact hgR
  have f12 : (r1 : Int) / (yn1 : Int) = (g1 : Int) := by rw [<- hg1]; rfl
  have f13 : IntKind.u64.wrap ((g1 : Int) * (yn1 : Int)) = (P1 : Int) := by
   rw [show (g1 : Int) * (yn1 : Int) = ((g1 * yn1 : Nat) : Int) from by rw [Int.natCast_mul], hP1, wrap_u64_of _ (by omega) (by omega)]
  have f14 : IntKind.u64.wrap ((r1 : Int) - (P1 : Int)) = (R1 : Int) := by rw [wrap_u64_of _ (by omega) (by omega)]; omega
  rw [hg1, hR1] at hgi
  have HGI := lh hgi
  have hr1u : r1 < (yn1 + 1) * 4294967296 := by have := HM.out.2.2.2.2.2; omega
  clear hgi hg1 hR1 hgR hP1 hP1b hA1 hA2 hA3 hPQ htot
  go_upto_block 2 with fail
  clear f1 f2 f3 f4 f12 f13 f14
  go_cut [18] (fun v wd => wd = wc /\ v = .int .u64 (q0 : Int))
  case first =>
   go_wp2_with fail
   go_loop [18, 16] (fun a b => ∃ g R : Nat, g < 18446744073709551616 /\ R < 4294967296 /\ a = .int .u64 (g : Int) /\ b = .int .u64 (R : Int) /\ Hid (GI 4294967296 yn1 yn0 r1 u0 g R)) (fun a _ => (intOf a).toNat)
   case atStart => exact ⟨_, _, by omega, by omega, rfl, rfl, HGI⟩
   case round =>
    obtain ⟨g, R, hgb, hRb, rfl, rfl, HG⟩ := hrel
    clear HGI
    have hstep : (β0 <= g \/ R * β0 + u0 < g * yn0) -> 0 < g /\ (β0 <= R + yn1 -> g - 1 = q0) := by
     intro hc
     have hg0 : 0 < g := by
      rcases hc with h | h
      ·unfold β0 at h; omega
      rcases Nat.eq_zero_or_pos g with h0 | h0
      ·subst h0
       rw [Nat.zero_mul] at h
       omega
      exact h0
     refine ⟨hg0, fun hR => ?_⟩
     have hG2 := gi_dec HG.out hc hg0
     have hlt := gi_lt hG2 hR (show r1 < (yn1 + 1) * β0 by unfold β0; omega)
     have := gi_quot hG2 hlt hyn0 (.inl hR) (by have := HT18.out; exact this)
     rw [this]
     exact HQ18.out
    by_cases hc : 4294967296 <= g
    ·obtain ⟨hg0, hend⟩ := hstep (.inl hc)
     have HG2 := lh (gi_dec HG.out (.inl hc) hg0)
     have d1 : (4294967296 : Int) <= (g : Int) := by omega
     have d2 : IntKind.u64.wrap ((g : Int) - 1) = ((g - 1 : Nat) : Int) := by rw [wrap_u64_of _ (by omega) (by omega)]; omega
     have d3 : IntKind.u64.wrap ((R : Int) + (yn1 : Int)) = ((R + yn1 : Nat) : Int) := by rw [wrap_u64_of _ (by omega) (by omega)]; omega
     have HEND := lh hend
     clear hstep hend
     obtain ⟨g', hg'⟩ : ∃ g', g - 1 = g' := ⟨_, rfl⟩
     obtain ⟨R', hR'⟩ : ∃ R', R + yn1 = R' := ⟨_, rfl⟩
     rw [hg'] at d2
     rw [hR'] at d3
     have hgg : g' < g := by omega
     rw [hg', hR'] at HG2 HEND
     clear hg' hR'
     by_cases hR : 4294967296 <= R'
     ·have d4 : (4294967296 : Int) <= (R' : Int) := by omega
      go_wp2
      go_meet
      exact ⟨rfl, by rw [HEND.out hR]⟩
     have d4 : ¬ (4294967296 : Int) <= (R' : Int) := by omega
     go_wp2
     exact ⟨⟨g', R', by omega, by omega, rfl, rfl, HG2⟩, by simp [intOf]; omega⟩
    have d1 : ¬ (4294967296 : Int) <= (g : Int) := by omega
    obtain ⟨P, hP⟩ : ∃ P, g * yn0 = P := ⟨_, rfl⟩
    have hPb : P < 18446744073709551616 := by
     rw [<- hP]
     exact Nat.lt_of_le_of_lt (Nat.mul_le_mul (show g <= 4294967295 by omega) (show yn0 <= 4294967295 by omega)) (by decide)
    have d2 : IntKind.u64.wrap ((g : Int) * (yn0 : Int)) = (P : Int) := by
     rw [show (g : Int) * (yn0 : Int) = ((g * yn0 : Nat) : Int) from by rw [Int.natCast_mul], hP, wrap_u64_of _ (by omega) (by omega)]
    obtain ⟨K, hK⟩ : ∃ K, R * 4294967296 + u0 = K := ⟨_, rfl⟩
    have d3 : IntKind.u64.wrap (4294967296 * (R : Int)) = 4294967296 * (R : Int) := wrap_u64_of _ (by omega) (by omega)
    have d4 : IntKind.u64.wrap (4294967296 * (R : Int) + (u0 : Int)) = (K : Int) := by rw [wrap_u64_of _ (by omega) (by omega)]; omega
    have hPK : (R * 4294967296 + u0 < g * yn0) ↔ K < P := by rw [hP, hK]
    by_cases hc2 : K < P
    ·obtain ⟨hg0, hend⟩ := hstep (.inr (hPK.2 hc2))
     have HG2 := lh (gi_dec HG.out (.inr (hPK.2 hc2)) hg0)
     have d5 : (K : Int) < (P : Int) := by omega
     have d6 : IntKind.u64.wrap ((g : Int) - 1) = ((g - 1 : Nat) : Int) := by rw [wrap_u64_of _ (by omega) (by omega)]; omega
     have d7 : IntKind.u64.wrap ((R : Int) + (yn1 : Int)) = ((R + yn1 : Nat) : Int) := by rw [wrap_u64_of _ (by omega) (by omega)]; omega
     have HEND := lh hend
     clear hstep hend hP hK hPK
     obtain ⟨g', hg'⟩ : ∃ g', g - 1 = g' := ⟨_, rfl⟩
     obtain ⟨R', hR'⟩ : ∃ R', R + yn1 = R' := ⟨_, rfl⟩
     rw [hg'] at d6
     rw [hR'] at d7
     have hgg : g' < g := by omega
     rw [hg', hR'] at HG2 HEND
     clear hg' hR'
     by_cases hR : 4294967296 <= R'
     ·have d8 : (4294967296 : Int) <= (R' : Int) := by omega
      go_wp2
      go_meet
      exact ⟨rfl, by rw [HEND.out hR]⟩
     have d8 : ¬ (4294967296 : Int) <= (R' : Int) := by omega
     go_wp2
     exact ⟨⟨g', R', by omega, by omega, rfl, rfl, HG2⟩, by simp [intOf]; omega⟩
    have d5 : ¬ (K : Int) < (P : Int) := by omega
    have hfin : g = q0 := by
     have := gi_quot HG.out (by omega) hyn0 (.inr (by rw [hP, hK]; omega)) (by have := HT18.out; exact this)
     rw [this]
     exact HQ18.out
    have HFIN := lh hfin
    clear hfin hstep hP hK hPK
    go_wp2
    go_meet
    exact ⟨rfl, by rw [HFIN.out]⟩
  case rest =>
   obtain ⟨hwc, rfl⟩ := hcut
   subst hwc
   clear HGI hR1l hg1b hr1u
   obtain ⟨B1, hB1⟩ : ∃ B1, r1 * 4294967296 % 18446744073709551616 = B1 := ⟨_, rfl⟩
   obtain ⟨B2, hB2⟩ : ∃ B2, (B1 + u0) % 18446744073709551616 = B2 := ⟨_, rfl⟩
   obtain ⟨PQ, hPQ⟩ : ∃ PQ, q0 * Y = PQ := ⟨_, rfl⟩
   obtain ⟨B3, hB3⟩ : ∃ B3, PQ % 18446744073709551616 = B3 := ⟨_, rfl⟩
   obtain ⟨r0, hr0⟩ : ∃ r0, (r1 * 4294967296 + u0) % Y = r0 := ⟨_, rfl⟩
   have hr0l : r0 < Y := by rw [<- hr0]; exact Nat.mod_lt _ (by omega)
   have htot : r1 * 4294967296 + u0 = PQ + r0 := by
    have h := Nat.div_add_mod (r1 * 4294967296 + u0) Y
    rw [HM.out.2.2.2.2.1, hr0, Nat.mul_comm, hPQ] at h
    omega
   have hrs : (r1 * 4294967296 + u0 - q0 * Y) = r0 := by rw [hPQ]; omega
   have f1 : IntKind.u64.wrap ((r1 : Int) * 4294967296) = (B1 : Int) := by
    rw [show (r1 : Int) * 4294967296 = ((r1 * 4294967296 : Nat) : Int) from by omega, wrap_u64_nat, hB1]
   have f2 : IntKind.u64.wrap ((B1 : Int) + (u0 : Int)) = (B2 : Int) := by
    rw [show (B1 : Int) + (u0 : Int) = ((B1 + u0 : Nat) : Int) from by omega, wrap_u64_nat, hB2]
   have f3 : IntKind.u64.wrap ((q0 : Int) * (Y : Int)) = (B3 : Int) := by
    rw [show (q0 : Int) * (Y : Int) = ((q0 * Y : Nat) : Int) from by rw [Int.natCast_mul], hPQ, wrap_u64_nat, hB3]
   have f4 : IntKind.u64.wrap ((B2 : Int) - (B3 : Int)) = (r0 : Int) := by
    simp only [IntKind.wrap, IntKind.bits, IntKind.signed]
    simp
    omega
   have hm4 := HM.out.1
   have hm5 := HM.out.2.1
   rw [hrs] at hm5
   obtain ⟨Q, hQ⟩ : ∃ Q, q1 * 4294967296 + q0 = Q := ⟨_, rfl⟩
   obtain ⟨E, hE⟩ : ∃ E, r0 / 2 ^ s = E := ⟨_, rfl⟩
   rw [hQ] at hm4
   rw [hE] at hm5
   have HF := lh (And.intro hm4 hm5)
   have f5 : IntKind.u64.wrap ((q1 : Int) * 4294967296) = (q1 : Int) * 4294967296 := wrap_u64_of _ (by omega) (by omega)
   have f6 : IntKind.u64.wrap ((q1 : Int) * 4294967296 + (q0 : Int)) = (Q : Int) := by rw [wrap_u64_of _ (by omega) (by omega)]; omega
   have f7 : (r0 : Int) / 2 ^ s = (E : Int) := by
    rw [<- hE, Int.natCast_ediv, Int.natCast_pow]
    rfl
   clear hQ hE hm4 hm5 hrs htot hr0 hB1 hB2 hB3 hPQ
   go_wp2
   go_ret2
   refine ⟨?_, 0, rfl⟩
   rw [<- HF.out.1, <- HF.out.2]
   rfl
theorem bits_Div64 (hi lo y : Nat) (w : World) (hlo : lo < 18446744073709551616) (hy : y < 18446744073709551616) (hhi : hi < y) :
  Calls Tryz.prog 162 #[.int .u64 (hi : Int), .int .u64 (lo : Int), .int .u64 (y : Int)] w fun e w' => e = .returned (.tuple #[.int .u64 (((hi * 18446744073709551616 + lo) / y : Nat) : Int), .int .u64 (((hi * 18446744073709551616 + lo) % y : Nat) : Int)]) /\ ∃ n, w' = w.drewN n := by
 by_cases h : hi = 0
 ·subst h
  have := div64_zero lo y w hlo (by omega) hy
  rw [Nat.zero_mul, Nat.zero_add]
  exact this
 exact div64_pos hi lo y w hlo hy (by omega) hhi
end Go.Proofs.YtecnjlcfoobepaaGreatDoor
