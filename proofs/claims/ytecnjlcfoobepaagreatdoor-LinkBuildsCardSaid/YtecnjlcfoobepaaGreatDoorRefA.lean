import Derived.Test.YtecnjlcfoobepaaGreatDoorMathA
import Derived.Test.YtecnjlcfoobepaaGreatDoorNatA
import Derived.Test.YtecnjlcfoobepaaGreatDoorMem
import Derived.RegionTactic
import Derived.BigRegion
import Derived.Test.YtecnjlcfoobepaaGreatDoorNatC
import Derived.Test.YtecnjlcfoobepaaGreatDoorNatB
namespace Go.Proofs.YtecnjlcfoobepaaGreatDoor
set_option maxRecDepth 100000
set_option maxHeartbeats 1000000
open Go.RowKit
set_option linter.unusedSimpArgs false
set_option linter.unusedVariables false
def u32v (x : Nat) : Value := .int .u32 (x : Int)
theorem Tryz.infoU32 : (Tryz.prog.info? 155).map (fun i => (i.zero, i.size, i.bytes)) = some (some (u32v 0), 1, 4) := by kernel_rfl
theorem Tryz.eltRN : Elt Tryz.prog 66 155 (u32v 0) 4 := ⟨Tryz.underlying66, Tryz.infoU32, rfl⟩
theorem u32v_one (x : Nat) : (u32v x).oneCell' = true := rfl
def TyB (w : World) (A : Option Addr) (t : TypeId) : Prop := ∀ ad, A = some ad -> ∃ cs fr, w.heap[ad.block]? = some (.cells cs t fr)
theorem Row.ty {α : Type} {w : World} {g : Nat} {t : TypeId} {f : α -> Value} {l : List α} (h : Row w g t f l) : TyB w (some ⟨g, 0, none⟩) t := fun ad e => by
 obtain rfl := Option.some.inj e
 exact ⟨_, _, h⟩
theorem Own.ty {α : Type} {w : World} {e : TypeId} {f : α -> Value} {A : Option Addr} {n c : Nat} {l : List α} (h : Own w e f (.slice A n c) l) : TyB w A e := fun ad ha => by
 rcases h.2 with ⟨h1, _⟩ | ⟨g, cap, cur, h1, _, h3, _⟩
 ·injection h1 with h1 _ _
  rw [h1] at ha
  cases ha
 injection h1 with h1 _ _
 rw [h1] at ha
 obtain rfl := Option.some.inj ha
 exact ⟨_, _, h3⟩
def IsN (w : World) (B : Nat) (v : Value) (n : Nat) : Prop :=
 ∃ A c, v = .slice A (limbs n).length c /\ (limbs n).length <= c /\ c <= 9223372036854775807 /\ Reads w B 1 A (limbs n).length ((limbs n).map u32v) /\ (0 < (limbs n).length -> TyB w A 155)
section
variable {w w' : World} {B B' n : Nat} {v : Value}
theorem IsN.below (h : IsN w B v n) (hb : Below B w w') : IsN w' B v n := by
 obtain ⟨A, c, h1, h2, h3, h4, h5⟩ := h
 refine ⟨A, c, h1, h2, h3, h4.below hb, fun hp ad hA => ?_⟩
 obtain ⟨ad', e1, e2, _⟩ := h4.2 hp
 rw [hA] at e1
 obtain rfl := Option.some.inj e1
 obtain ⟨cs, fr, h6⟩ := h5 hp ad hA
 exact ⟨cs, fr, (hb.block _ e2).trans h6⟩
theorem IsN.next (h : IsN w B v n) (hB : B <= w.heap.size) (hb : Below w.heap.size w w') : IsN w' B v n := h.below (hb.mono hB)
theorem IsN.more (h : IsN w B v n) (hB : B <= B') : IsN w B' v n := by
 obtain ⟨A, c, h1, h2, h3, h4, h5⟩ := h
 exact ⟨A, c, h1, h2, h3, h4.more hB, h5⟩
theorem IsN.nil (w : World) (B : Nat) : IsN w B (.slice none 0 0) 0 := ⟨none, 0, rfl, Nat.le_refl _, by omega, Reads.none_, fun h => absurd h (by rw [limbs_zero]; simp)⟩
theorem IsN.trim {A : Option Addr} {k c : Nat} {l : List Nat} (h : Reads w B 1 A k (l.map u32v)) (hc : k <= c) (hc2 : c <= 9223372036854775807) (hd : Dig 4294967296 l) (hn : dv 4294967296 l = n) (ht : TyB w A 155) : IsN w B (.slice A (trimL l).length c) n := by
 have hl := h.lenf
 have e := limbs_dv l hd
 rw [hn] at e
 have hle := trimL_len l
 refine ⟨A, c, by rw [e], by rw [e]; omega, hc2, ?_, fun _ => ht⟩
 rw [e]
 have := h.front (k := (trimL l).length) (by omega)
 rw [Nat.mul_one, <- List.map_take, <- trimL_take l] at this
 exact this
end
def RetN (n : Nat) (w : World) (e : Ending) (w' : World) : Prop := ∃ v, e = .returned v /\ IsN w' w'.heap.size v n /\ Below w.heap.size w w'
theorem ref_trim (A : Option Addr) (n c B : Nat) (l : List Nat) (w : World) (h : Reads w B 1 A n (l.map u32v)) (hn : n <= 9223372036854775807) (hc : n <= c) :
  Calls Tryz.prog 138 #[.slice A n c] w fun e w' => e = .returned (.slice A (trimL l).length c) /\ w = w' := by
 have hl := h.lenf
 have HL := lh hl
 clear hl
 go_enter Tryz.func138, Tryz.ntmps138
 go_wp2
 go_loop [3] (fun v => ∃ k : Nat, k <= n /\ v = .int .i64 (k : Int) /\ Hid (trimL (l.take k) = trimL l)) (fun v => (intOf v).toNat)
 case atStart => exact ⟨n, Nat.le_refl _, rfl, by show _ = _; rw [List.take_of_length_le (by rw [HL.out]; omega)]⟩
 case round =>
  obtain ⟨k, hk, rfl, HK⟩ := hrel
  by_cases h0 : k = 0
  ·subst h0
   go_wp2
   go_ret
   have := HK.out
   rw [<- this]
   exact ⟨rfl, rfl⟩
  obtain ⟨j, rfl⟩ : ∃ j, k = j + 1 := ⟨k - 1, by omega⟩
  obtain ⟨ad, x, hA, hb, hx, hcell⟩ := h.atf (show j < n by omega)
  subst hA
  unfold u32v at hcell
  have k1 : (((j + 1 : Nat) : Int) - 1) = (j : Int) := by omega
  have k2 : (j : Int) < (n : Int) := by omega
  have k3 : (0 : Int) < ((j + 1 : Nat) : Int) := by omega
  have k4 : ((j + 1 : Nat) : Int) <= (c : Int) := by omega
  have HX := lh hx
  clear hx
  by_cases hx0 : x = 0
  ·subst hx0
   go_wp2
   refine ⟨⟨j, by omega, rfl, ?_⟩, by simp [intOf]⟩
   show _ = _
   rw [<- trimL_take0 HX.out]
   exact HK.out
  have hx1 : ((x : Int) == 0) = false := by simp; omega
  go_wp2
  go_ret
  refine ⟨?_, rfl⟩
  have h1 := HK.out
  rw [trimL_takeS HX.out hx0] at h1
  rw [<- h1, List.length_take, HL.out, Nat.min_eq_left hk]
  rfl
theorem ref_at (A : Option Addr) (n c B i : Nat) (l : List Nat) (w : World) (h : Reads w B 1 A n (l.map u32v)) (hn : n <= 9223372036854775807) (hd : Dig 4294967296 l) (hi : i <= 9223372036854775807) :
  Calls Tryz.prog 161 #[.slice A n c, .int .i64 (i : Int)] w fun e w' => e = .returned (.int .u64 ((l.getD i 0 : Nat) : Int)) /\ w = w' := by
 by_cases hin : i < n
 ·obtain ⟨ad, x, hA, hb, hx, hcell⟩ := h.atf hin
  subst hA
  unfold u32v at hcell
  have hxl := hd.get hx
  have e : l.getD i 0 = x := by rw [List.getD_eq_getElem?_getD, hx]; rfl
  rw [e]
  have hw : IntKind.u64.wrap (x : Int) = (x : Int) := by rw [wrap_u64_nat, Nat.mod_eq_of_lt (by omega)]
  have k2 : (i : Int) < (n : Int) := by omega
  clear hx e h
  go_enter Tryz.func161, Tryz.ntmps161
  go_wp2
  go_ret
  exact ⟨rfl, rfl⟩
 have hl := h.lenf
 have e : l.getD i 0 = 0 := by rw [List.getD_eq_getElem?_getD, List.getElem?_eq_none (by omega)]; rfl
 rw [e]
 have k2 : ¬ (i : Int) < (n : Int) := by omega
 clear e h hl
 go_enter Tryz.func161, Tryz.ntmps161
 go_wp2
 go_ret
 exact ⟨rfl, rfl⟩
theorem ref_natOf (n : Nat) (w : World) (hn : n < 18446744073709551616) : Calls Tryz.prog 107 #[.int .u64 (n : Int)] w (RetN n w) := by
 obtain ⟨a, ha⟩ : ∃ a, n % 4294967296 = a := ⟨_, rfl⟩
 obtain ⟨b, hb⟩ : ∃ b, n / 4294967296 = b := ⟨_, rfl⟩
 have e1 : IntKind.u32.wrap (n : Int) = (a : Int) := by rw [wrap_u32_nat, ha]
 have e2 : (n : Int) / 4294967296 = (b : Int) := by omega
 have e3 : IntKind.u32.wrap (b : Int) = (b : Int) := by rw [wrap_u32_nat, Nat.mod_eq_of_lt (by omega)]
 have hr : Reads (w.alloc (.cells #[u32v a, u32v b] 155)) (w.heap.size + 1) 1 (some ⟨w.heap.size, 0, none⟩) 2 ([a, b].map u32v) := by
  have := (Row.new w 155 u32v [a, b]).reads
  exact this
 have hd : Dig 4294967296 [a, b] := Dig.cons (by omega) (Dig.cons (by omega) Dig.nil)
 have hv : dv 4294967296 [a, b] = n := by simp only [dv]; omega
 have HV := lh (And.intro ha (And.intro hb hv))
 clear ha hb hv
 go_enter Tryz.func107, Tryz.ntmps107
 go_wp2_with fail
 unfold u32v at hr
 refine (ref_trim (some ⟨w.heap.size, 0, none⟩) 2 2 _ [a, b] _ hr (by omega) (by omega)).mono ?_
 rintro e w1 ⟨rfl, rfl⟩
 go_wp2
 go_ret
 refine ⟨_, rfl, (IsN.trim hr (by omega) (by omega) hd HV.out.2.2 (Row.ty (Row.new w 155 u32v [a, b]))).more (by simp), balloc1 _ _⟩
theorem ref_cmp (a b B B' : Nat) (va vb : Value) (w : World) (ha : IsN w B va a) (hb : IsN w B' vb b) (hla : (limbs a).length <= 34359738368) (hlb : (limbs b).length <= 34359738368) :
  Calls Tryz.prog 70 #[va, vb] w (Ret (.int .i64 (cmpI a b)) w) := by
 obtain ⟨A, c, rfl, hac, hac2, hra, _⟩ := ha
 obtain ⟨A', c', rfl, hbc, hbc2, hrb, _⟩ := hb
 obtain ⟨n, hn⟩ : ∃ n, (limbs a).length = n := ⟨_, rfl⟩
 obtain ⟨m, hm⟩ : ∃ m, (limbs b).length = m := ⟨_, rfl⟩
 rw [hn] at hra hac hla
 rw [hm] at hrb hbc hlb
 rw [hn, hm]
 rcases Nat.lt_trichotomy n m with h | h | h
 ·rw [cmpI_lt (limbs_longer (show (limbs a).length < (limbs b).length by omega))]
  have e1 : ((n : Int) != (m : Int)) = true := by simp [bne_iff_ne]; omega
  have e2 : (n != m) = true := by simp [bne_iff_ne]; omega
  have e3 : n < m := h
  clear hn hm h
  go_enter Tryz.func70, Tryz.ntmps70
  go_wp2
  go_ret
  exact ⟨rfl, Below.refl _ _⟩
 ·subst h
  have HA := lh (And.intro hn hm)
  have e1 : ((n : Int) != (n : Int)) = false := by simp
  have e2 : (n != n) = false := by simp
  clear hn hm
  go_enter Tryz.func70, Tryz.ntmps70
  go_wp2
  go_loopw [5] (fun p wr => ∃ k : Nat, k <= n /\ p = .int .i64 ((k : Int) - 1) /\ Hid ((limbs a).drop k = (limbs b).drop k) /\ ∃ d, wr = w.drewN d) (fun p _ => (intOf p + 1).toNat)
  case atStart => exact ⟨n, Nat.le_refl _, rfl, lh (by rw [List.drop_of_length_le (by rw [HA.out.1]; omega), List.drop_of_length_le (by rw [HA.out.2]; omega)]), 0, rfl⟩
  case round =>
   obtain ⟨k, hk, rfl, HE, d, rfl⟩ := hrel
   by_cases h0 : k = 0
   ·subst h0
    have he := HE.out
    rw [List.drop_zero, List.drop_zero] at he
    have hab : a = b := by rw [<- dv_limbs a, he, dv_limbs]
    subst hab
    clear he
    go_wp2
    go_ret
    exact ⟨by rw [cmpI_eq]; rfl, bdrewN (Below.refl _ _) d⟩
   obtain ⟨j, rfl⟩ : ∃ j, k = j + 1 := ⟨k - 1, by omega⟩
   obtain ⟨ad, x, hA, hb1, hx, hcx⟩ := (hra.drewN d).atf (show j < n by omega)
   obtain ⟨ad', y, hA', hb2, hy, hcy⟩ := (hrb.drewN d).atf (show j < n by omega)
   subst hA
   subst hA'
   unfold u32v at hcx hcy
   have k1 : (((j + 1 : Nat) : Int) - 1) = (j : Int) := by omega
   have k2 : (j : Int) < (n : Int) := by omega
   have hj : j < n := by omega
   have hjb : (j : Int) <= 34359738368 := by omega
   generalize hW : w.drewN d = W at *
   have HW := lh hW
   clear hW
   rcases Nat.lt_trichotomy x y with h | h | h
   ·have hlt := dv_cmp (limbs_dig a) (limbs_dig b) (by omega) hx hy HE.out h
    rw [dv_limbs, dv_limbs] at hlt
    rw [cmpI_lt hlt]
    have f1 : ((x : Int) != (y : Int)) = true := by simp [bne_iff_ne]; omega
    have f2 : (x != y) = true := by simp [bne_iff_ne]; omega
    have f3 : (x : Int) < (y : Int) := by omega
    clear hx hy hlt
    rw [k1]
    go_wp2_with fail
    go_region
    go_wp2
    go_region
    go_wp2
    go_ret
    refine ⟨rfl, ?_⟩
    rw [<- HW.out]
    exact bdrewN (bdrewN (bdrewN (Below.refl _ _) d) 1) 1
   ·subst h
    have f1 : ((x : Int) != (x : Int)) = false := by simp
    have f2 : (x != x) = false := by simp
    have hnew : (limbs a).drop j = (limbs b).drop j := by
     rw [List.drop_eq_getElem?_toList_append, List.drop_eq_getElem?_toList_append (l := limbs b), hx, hy, HE.out]
    have HN := lh hnew
    clear hx hy hnew
    rw [k1]
    go_wp2_with fail
    go_region
    go_wp2
    refine ⟨⟨j, by omega, rfl, HN, d + 1, ?_⟩, by simp [intOf]⟩
    rw [<- HW.out]
    rfl
   have hlt := dv_cmp (limbs_dig b) (limbs_dig a) (by omega) hy hx HE.out.symm h
   rw [dv_limbs, dv_limbs] at hlt
   rw [cmpI_gt hlt]
   have f1 : ((x : Int) != (y : Int)) = true := by simp [bne_iff_ne]; omega
   have f2 : (x != y) = true := by simp [bne_iff_ne]; omega
   have f3 : ¬ (x : Int) < (y : Int) := by omega
   clear hx hy hlt
   rw [k1]
   go_wp2_with fail
   go_region
   go_wp2
   go_region
   go_wp2
   go_ret
   refine ⟨rfl, ?_⟩
   rw [<- HW.out]
   exact bdrewN (bdrewN (bdrewN (Below.refl _ _) d) 1) 1
 rw [cmpI_gt (limbs_longer (show (limbs b).length < (limbs a).length by omega))]
 have e1 : ((n : Int) != (m : Int)) = true := by simp [bne_iff_ne]; omega
 have e2 : (n != m) = true := by simp [bne_iff_ne]; omega
 have e3 : ¬ n < m := by omega
 clear hn hm h
 go_enter Tryz.func70, Tryz.ntmps70
 go_wp2
 go_ret
 exact ⟨rfl, Below.refl _ _⟩
theorem blen_half (x : Nat) (h : 0 < x) : blen x = blen (x / 2) + 1 := by
 obtain ⟨h1, h2, h3⟩ := blen_bounds x (by omega)
 rcases Nat.lt_or_ge x 2 with h4 | h4
 ·obtain rfl : x = 1 := by omega
  rfl
 obtain ⟨k, hk⟩ : ∃ k, blen x = k + 2 := by
  refine ⟨blen x - 2, ?_⟩
  have : ¬ blen x = 1 := fun e => by rw [e] at h3; omega
  omega
 rw [hk] at h2 h3 ⊢
 have e1 : (2 : Nat) ^ (k + 2 - 1) = 2 ^ k * 2 := by rw [show k + 2 - 1 = k + 1 by omega, Nat.pow_succ]
 have e2 : (2 : Nat) ^ (k + 2) = 2 ^ (k + 1) * 2 := by rw [<- Nat.pow_succ]
 rw [blen_eq (x / 2) k (by omega) (by omega)]
theorem ref_bits (a B : Nat) (v : Value) (w : World) (h : IsN w B v a) (hl : (limbs a).length <= 34359738368) : Calls Tryz.prog 139 #[v] w fun e w' => e = .returned (.int .i64 ((blen a : Nat) : Int)) /\ w = w' := by
 obtain ⟨A, c, rfl, hac, hac2, hr, _⟩ := h
 obtain ⟨n, hn⟩ : ∃ n, (limbs a).length = n := ⟨_, rfl⟩
 rw [hn] at hr hac hl
 rw [hn]
 by_cases h0 : a = 0
 ·subst h0
  obtain rfl : 0 = n := hn
  go_enter Tryz.func139, Tryz.ntmps139
  go_wp2
  go_ret
  exact ⟨rfl, rfl⟩
 obtain ⟨t, ht, ht0, htl⟩ := limbs_top a h0
 have hbt := blen_top ht ht0
 have hn0 : 0 < n := by
  rcases Nat.eq_zero_or_pos n with h1 | h1
  ·exact absurd ((limbs_nil a).1 (by omega)) h0
  exact h1
 obtain ⟨j, rfl⟩ : ∃ j, n = j + 1 := ⟨n - 1, by omega⟩
 rw [hn] at ht hbt
 rw [show j + 1 - 1 = j by omega] at ht hbt
 obtain ⟨ad, x, hA, hb1, hx, hcx⟩ := hr.atf (show j < j + 1 by omega)
 obtain rfl : t = x := by rw [ht] at hx; exact Option.some.inj hx
 subst hA
 unfold u32v at hcx
 have k1 : (((j + 1 : Nat) : Int) - 1) = (j : Int) := by omega
 have k2 : (((j + 1 : Nat) : Int) == 0) = false := by simp; omega
 have k3 : ((j + 1) == 0) = false := by simp
 have k4 : (j : Int) < ((j + 1 : Nat) : Int) := by omega
 have HB := lh hbt
 clear hx ht hn hbt hr
 go_enter Tryz.func139, Tryz.ntmps139
 go_wp2
 go_loop [3, 4] (fun p q => ∃ k y : Nat, k <= 64 /\ k + blen y <= 64 /\ y < 4294967296 /\ p = .int .i64 (32 * (j : Int) + (k : Int)) /\ q = .int .u32 (y : Int) /\ Hid (blen t = k + blen y)) (fun _ q => (intOf q).toNat)
 case atStart =>
  have := blen_le t 32 htl
  exact ⟨0, t, by omega, by omega, htl, by simp, rfl, lh (by omega)⟩
 case round =>
  obtain ⟨k, y, hk, hky, hyl, rfl, rfl, HK⟩ := hrel
  by_cases hy : 0 < y
  ·have hy2 : (0 : Int) < (y : Int) := by omega
   have hh := blen_half y hy
   have HH := lh hh
   clear hh
   go_wp2
   refine ⟨⟨k + 1, y / 2, ?_, ?_, by omega, ?_, ?_, ?_⟩, ?_⟩
   ·have := HH.out; omega
   ·have := HH.out; omega
   ·go_num
   ·simp
   ·exact lh (by have := HH.out; have := HK.out; omega)
   simp [intOf]; omega
  obtain rfl : y = 0 := by omega
  go_wp2
  go_ret
  refine ⟨ret_int ?_, rfl⟩
  have h1 := HK.out
  have h2 := HB.out
  rw [blen_zero] at h1
  omega
theorem limbs_get (n j x : Nat) (h : (limbs n)[j]? = some x) : x = n / 4294967296 ^ j % 4294967296 := by
 have h1 := dv_div (limbs_dig n) (by omega) j
 rw [dv_limbs, dv_drop h] at h1
 have := (limbs_dig n).get h
 rw [h1]
 omega
theorem byte_limb (n i x : Nat) (h : (limbs n)[i / 4]? = some x) : (x : Int) / 2 ^ (8 * (i % 4)) % 256 = ((byteAt n i).toNat : Int) := by
 have hx := limbs_get n _ x h
 have e : (x : Int) / 2 ^ (8 * (i % 4)) % 256 = ((x / 256 ^ (i % 4) % 256 : Nat) : Int) := by
  rw [Int.natCast_emod, Int.natCast_ediv, Int.natCast_pow]
  congr 2
  rw [Int.pow_mul]
  rfl
 rw [e]
 unfold byteAt
 have e2 : n / 256 ^ i % 256 = x / 256 ^ (i % 4) % 256 := by
  have hp : (256 : Nat) ^ i = 4294967296 ^ (i / 4) * 256 ^ (i % 4) := by
   rw [show (4294967296 : Nat) = 256 ^ 4 from rfl, <- Nat.pow_mul, <- Nat.pow_add]
   congr 1
   omega
  rw [hp, <- Nat.div_div_eq_div_mul, hx]
  generalize n / 4294967296 ^ (i / 4) = z
  have hr : i % 4 < 4 := by omega
  generalize i % 4 = r at *
  have h4 : r = 0 \/ r = 1 \/ r = 2 \/ r = 3 := by omega
  rcases h4 with rfl | rfl | rfl | rfl <;> simp <;> omega
 rw [e2]
 simp
def RBytesRel (w : World) (n g B : Nat) (A : Option Addr) (i : Nat) (wr : World) : Prop :=
 Row wr g 5 u8v (List.replicate (nbytes n - i) 0 ++ lowBytes n i) /\ Below w.heap.size w wr /\ Reads wr B 1 A (limbs n).length ((limbs n).map u32v)
theorem ref_bytes (a B : Nat) (va : Value) (w : World) (h : IsN w B va a) (hB : B <= w.heap.size) (ha : blen a <= 1099511627776) :
  Calls Tryz.prog 112 #[va] w fun e w' => ∃ v, e = .returned v /\ NewB w w' v (natB a) := by
 have hbits := ref_bits a B va w h (limbs_len_b a ha)
 obtain ⟨A, c, rfl, hac, hac2, hr, _⟩ := h
 have hbl := blen_limbs a
 obtain ⟨N, hN⟩ : ∃ N, nbytes a = N := ⟨_, rfl⟩
 have hN2 : ((blen a : Int) + 7) / 8 = (N : Int) := by unfold nbytes at hN; omega
 have hN3 : N <= 140737488355328 := by omega
 have hmk := make_row (P := Tryz.prog) u8v 0 157 5 1 Tryz.underlying157 Tryz.infoU8 rfl .i64 .i64 N (by omega) (by omega)
 have HN := lh hN
 obtain ⟨L, hL⟩ : ∃ L, (limbs a).length = L := ⟨_, rfl⟩
 rw [hL] at hbits
 rw [hL]
 have HBITS := lh hbits
 clear hN hbits
 have hLN : ∀ i, i < N -> i / 4 < L := fun i hi => by
  have := HN.out
  unfold nbytes at this
  omega
 have HLN := lh hLN
 have HL := lh hL
 have hr0 := lh hr
 rw [hL] at hac
 clear hLN hbl hr hL
 go_enter Tryz.func112, Tryz.ntmps112
 go_wp2_with fail
 refine HBITS.out.mono ?_
 rintro e w1 ⟨rfl, rfl⟩
 clear HBITS
 go_wp2_with fail
 rw [hN2]
 have hr2 := Row.rep w 5 u8v 0 N
 have hB2 := balloc1 w (.cells (Array.replicate N (u8v 0)) 5)
 have hrd := hr0.out.alloc hB (.cells (Array.replicate N (u8v 0)) 5)
 clear hmk hN2 hr0
 obtain ⟨g, hg⟩ : ∃ g, w.heap.size = g := ⟨_, rfl⟩
 have HG := lh hg
 rw [hg] at hr2 hB
 rw [hg]
 clear hg
 go_loopw [5] (fun y wr => ∃ i : Nat, i <= N /\ y = .int .i64 i /\ RBytesRel w a g B A i wr) (fun y _ => N - (intOf y).toNat)
 case atStart => exact ⟨0, Nat.zero_le _, rfl, by rw [HN.out]; simpa [lowBytes] using hr2, hB2, hrd⟩
 case round =>
  obtain ⟨i, hi, rfl, h1, h2, h3⟩ := hrel
  clear hr2 hB2 hrd
  rw [HN.out] at h1
  by_cases hlt : i < N
  ·have hi8 := HLN.out i hlt
   rw [HL.out] at h3
   obtain ⟨ad, x, hA, hb, hx, hc⟩ := h3.atf hi8
   have e1 := byte_limb a i x hx
   obtain ⟨y, hy⟩ : ∃ y, byteAt a i = y := ⟨_, rfl⟩
   rw [hy] at e1
   have HY := lh hy
   clear hy hx
   subst hA
   unfold u32v at hc
   have hcell := h1.cell (k := N - 1 - i) (x := 0) (by rw [List.getElem?_append_left (by simp; omega), List.getElem?_replicate]; simp; omega)
   have hfz := h1.frozen (N - 1 - i)
   have hnx := low_set a N i hlt
   have HNX := lh hnx
   unfold u8v at hcell
   clear hnx
   have k1 : ((N : Int) - 1 - (i : Int)).toNat = N - 1 - i := by omega
   have k2 : (0 : Int) <= (N : Int) - 1 - (i : Int) := by omega
   have k3 : (N : Int) - 1 - (i : Int) < (N : Int) := by omega
   have k4 : ((i : Int) / 4) < (L : Int) := by omega
   go_wp2
   have hg2 := HG.out
   refine ⟨⟨i + 1, by omega, by go_num, ?_, h2.setCell (by simp; omega) _, ?_⟩, by simp [intOf]; omega⟩
   ·have h6 := h1.set_ (N - 1 - i) y
    rw [<- HY.out, HNX.out, HY.out] at h6
    rw [HN.out]
    exact h6
   rw [HL.out]
   exact Reads.setFar h3 (fun ad' h => by cases h; simp; omega) _
  obtain rfl : i = N := by omega
  go_wp2
  go_ret
  rw [Nat.sub_self, List.replicate_zero, List.nil_append] at h1
  have h5 : natB a = lowBytes a i := by unfold natB; rw [HN.out]
  have ho := Own.ofBlk h1 (by rw [lowBytes_len]; unfold maxLen; omega)
  rw [lowBytes_len] at ho
  rw [h5]
  have hg2 := HG.out
  exact ⟨_, rfl, ho, h2, fun k hk => by simp [Value.ownBlock] at hk; omega⟩
theorem or_u32_byte (m b r : Nat) (hm : 256 ^ (r + 1) * m < 4294967296) (hb : b < 256) (hr : r < 4) :
  bits .or .u32 ((256 ^ (r + 1) * m : Nat) : Int) (IntKind.u32.wrap ((b : Int) * 2 ^ (8 * r))) = ((256 ^ (r + 1) * m + b * 256 ^ r : Nat) : Int) /\ 256 ^ (r + 1) * m + b * 256 ^ r < 4294967296 := by
 have p : (256 : Nat) ^ r = 2 ^ (8 * r) := by rw [Nat.pow_mul]
 have p1 : (256 : Nat) ^ (r + 1) = 2 ^ (8 * (r + 1)) := by rw [Nat.pow_mul]
 have hb2 : b * 256 ^ r < 256 ^ (r + 1) := by
  rw [Nat.pow_succ, Nat.mul_comm]
  exact Nat.mul_lt_mul_of_pos_left hb (Nat.pow_pos (by omega))
 have hle : (256 : Nat) ^ (r + 1) <= 256 ^ 4 := Nat.pow_le_pow_right (by omega) (by omega)
 have h4 : 256 ^ (r + 1) * m + b * 256 ^ r < 4294967296 := by
  have e : (4294967296 : Nat) = 256 ^ (r + 1) * 256 ^ (3 - r) := by
   rw [<- Nat.pow_add, show r + 1 + (3 - r) = 4 by omega]
  rw [e] at hm ⊢
  have hm2 : m < 256 ^ (3 - r) := Nat.lt_of_mul_lt_mul_left hm
  have h5 := Nat.mul_le_mul_left (256 ^ (r + 1)) (show m + 1 <= 256 ^ (3 - r) from hm2)
  rw [Nat.mul_succ] at h5
  omega
 have hs : b * 256 ^ r < 4294967296 := Nat.lt_of_lt_of_le hb2 (by simpa using hle)
 refine ⟨?_, h4⟩
 rw [show (b : Int) * 2 ^ (8 * r) = ((b * 256 ^ r : Nat) : Int) from by rw [Int.natCast_mul, p, Int.natCast_pow]; rfl, wrap_u32_nat, Nat.mod_eq_of_lt hs, or_u32 _ _ hm hs]
 congr 1
 rw [p1] at hb2 ⊢
 exact (Nat.two_pow_add_eq_or_of_lt hb2 m).symm
def FfRel (w : World) (g L : Nat) (v : Nat) (wr : World) : Prop := ∃ l : List Nat, Row wr g 155 u32v l /\ l.length = L /\ Dig 4294967296 l /\ dv 4294967296 l = v /\ Below w.heap.size w wr
theorem ref_from (A : Option Addr) (n c B : Nat) (bs : List UInt8) (w : World) (h : Bytes w B A n bs) (hB : B <= w.heap.size) (hn : n <= 1099511627776) :
  Calls Tryz.prog 136 #[.slice A n c] w (RetN (beVal bs) w) := by
 have hl := h.len
 obtain ⟨L, hL⟩ : ∃ L, (n + 3) / 4 = L := ⟨_, rfl⟩
 have hL2 : ((n : Int) + 3) / 4 = (L : Int) := by omega
 have hmk := make_row (P := Tryz.prog) u32v 0 66 155 4 Tryz.underlying66 Tryz.infoU32 rfl .i64 .i64 L (by omega) (by omega)
 have HL := lh (And.intro hl hL)
 clear hl
 have hLn : L <= 1099511627776 := by omega
 clear hL
 go_enter Tryz.func136, Tryz.ntmps136
 go_wp2_with fail
 clear hmk hL2
 have hrow := Row.rep w 155 u32v 0 L
 have hbel0 := balloc1 w (.cells (Array.replicate L (u32v 0)) 155)
 obtain ⟨g, hg⟩ : ∃ g, w.heap.size = g := ⟨_, rfl⟩
 have HG := lh hg
 have hgw : w.heap.size <= g := by omega
 rw [hg] at hrow
 rw [hg]
 clear hg
 go_loopw [4, 5] (fun i x wr => ∃ k : Nat, k <= n /\ i = .int .i64 k /\ FfRel w g L (beVal (bs.take k) * 256 ^ (n - k)) wr) (fun i _ _ => n - (intOf i).toNat)
 case atStart =>
  refine ⟨0, Nat.zero_le _, rfl, _, hrow, by simp, Dig.rep (by omega) _, ?_, hbel0⟩
  rw [dv_rep, List.take_zero]
  simp [beVal]
 case round =>
  obtain ⟨i, hi, rfl, l, hr, hlen, hdig, hdv, hbel⟩ := hrel
  have HLEN := lh hlen
  have HDV := lh hdv
  clear hlen hdv hrow hbel0
  by_cases hlt : i < n
  ·have h4 : Bytes wr B A n bs := Reads.below h (hbel.mono hB)
   obtain ⟨ad, x, hA, hb, hx, hcx⟩ := h4.at_ hlt
   subst hA
   obtain ⟨k, hk⟩ : ∃ k, n - 1 - i = k := ⟨_, rfl⟩
   obtain ⟨j, hj⟩ : ∃ j, k / 4 = j := ⟨_, rfl⟩
   obtain ⟨r, hr8⟩ : ∃ r, k % 4 = r := ⟨_, rfl⟩
   have hjL : j < L := by have := HL.out.2; omega
   have hk4 : k = 4 * j + r := by omega
   have hr4 : r < 4 := by omega
   obtain ⟨y, hy⟩ : ∃ y, l[j]? = some y := ⟨_, List.getElem?_eq_getElem (by rw [HLEN.out]; exact hjL)⟩
   obtain ⟨V, hV⟩ : ∃ V, beVal (bs.take i) = V := ⟨_, rfl⟩
   have hdv := HDV.out
   rw [hV, show n - i = k + 1 by omega] at hdv
   have hpk : (256 : Nat) ^ (k + 1) = 256 ^ (r + 1) * 4294967296 ^ j := by
    rw [show (4294967296 : Nat) = 256 ^ 4 from rfl, <- Nat.pow_mul, <- Nat.pow_add]
    congr 1
    omega
   have hyl := hdig.get hy
   have hym : y = 256 ^ (r + 1) * (V % 256 ^ (3 - r)) := by
    have h1 := dv_div hdig (by omega) j
    rw [dv_drop hy, hdv, hpk, <- Nat.mul_assoc, Nat.mul_div_cancel _ (Nat.pow_pos (by omega))] at h1
    have h2 : V * 256 ^ (r + 1) % 4294967296 = y := by rw [h1]; omega
    rw [<- h2, show (4294967296 : Nat) = 256 ^ (r + 1) * 256 ^ (3 - r) from by rw [<- Nat.pow_add, show r + 1 + (3 - r) = 4 by omega], Nat.mul_comm V, Nat.mul_mod_mul_left]
   obtain ⟨m, hm⟩ : ∃ m, V % 256 ^ (3 - r) = m := ⟨_, rfl⟩
   rw [hm] at hym
   have hor := or_u32_byte m x.toNat r (by rw [<- hym]; exact hyl) (by have := x.toNat_lt; omega) hr4
   rw [<- hym] at hor
   have hnew : dv 4294967296 (l.set j (y + x.toNat * 256 ^ r)) = beVal (bs.take (i + 1)) * 256 ^ (n - (i + 1)) := by
    have h5 := dv_set (β := 4294967296) (y + x.toNat * 256 ^ r) hy
    rw [beVal_take bs i x hx, hV, show n - (i + 1) = k by omega, Nat.add_mul, Nat.mul_assoc V 256, Nat.mul_comm 256, <- Nat.pow_succ, <- hdv]
    rw [Nat.add_mul] at h5
    have h7 : x.toNat * 256 ^ k = x.toNat * 256 ^ r * 4294967296 ^ j := by
     rw [hk4, show (4294967296 : Nat) = 256 ^ 4 from rfl, <- Nat.pow_mul, Nat.mul_assoc, <- Nat.pow_add, Nat.add_comm r]
    rw [h7]
    omega
   obtain ⟨hor1, hor2⟩ := hor
   have hor3 : bits .or .u32 (y : Int) ((x.toNat : Int) * 2 ^ (8 * r) % 4294967296) = ((y + x.toNat * 256 ^ r : Nat) : Int) := hor1
   generalize y + x.toNat * 256 ^ r = z at *
   have hcy := hr.cell (k := j) (x := y) hy
   have hfz := hr.frozen j
   unfold u32v at hcy
   have HX := lh hnew
   clear hnew hx hy hym hm hdv hpk hV hk4 h4
   have c1 : ((k : Int) / 4) = (j : Int) := by omega
   have c2 : ((k : Int) % 4) = (r : Int) := by omega
   have c3 : (n : Int) - 1 - (i : Int) = (k : Int) := by omega
   have c5 : (i : Int) < (n : Int) := by omega
   have c6 : (j : Int) < (L : Int) := by omega
   have c7 : (8 : Int) * (r : Int) <= 24 := by omega
   have c8 : IntKind.u32.wrap (x.toNat : Int) = (x.toNat : Int) := by rw [wrap_u32_nat, Nat.mod_eq_of_lt (by have := x.toNat_lt; omega)]
   clear hj hr8 hk
   go_wp2_with fail
   go_region
   go_wp2
   refine ⟨⟨i + 1, by omega, by go_num, l.set j z, ?_, by rw [List.length_set]; exact HLEN.out, hdig.set_ j hor2, HX.out, ?_⟩, by simp [intOf]; omega⟩
   ·exact (hr.set_ j z).drewN 1
   exact bdrewN (hbel.setCell hgw _) 1
  obtain rfl : i = n := by omega
  have hdv2 := HDV.out
  rw [Nat.sub_self, Nat.pow_zero, Nat.mul_one, List.take_of_length_le (by rw [HL.out.1]; omega)] at hdv2
  have hrd := Own.reads (Own.ofBlk hr (by rw [HLEN.out]; unfold maxLen; omega))
  rw [HLEN.out] at hrd
  go_wp2_with fail
  refine (ref_trim _ L L _ l wr hrd (by omega) zd).mono ?_
  rintro e w5 ⟨rfl, rfl⟩
  go_wp2
  go_ret
  exact ⟨_, rfl, IsN.trim hrd zd (by omega) hdig hdv2 hr.ty, hbel⟩
end Go.Proofs.YtecnjlcfoobepaaGreatDoor
