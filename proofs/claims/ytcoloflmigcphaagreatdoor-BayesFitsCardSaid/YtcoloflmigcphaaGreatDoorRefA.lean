import Derived.RegionTactic
import Derived.BigRegion
import Derived.Test.YtcoloflmigcphaaGreatDoorNatC
namespace Go.Proofs.YtcoloflmigcphaaGreatDoor
set_option maxRecDepth 100000
set_option maxHeartbeats 1000000
open Go.RowKit
set_option linter.all false
def Ju (x : Nat) : Value := .int .u32 (x : Int)
theorem Tryz.infoU32 : (Tryz.prog.info? 163).map (fun i => (i.zero, i.size, i.bytes)) = some (some (Ju 0), 1, 4) := by kernel_rfl
theorem Tryz.eltRN : Elt Tryz.prog 24 163 (Ju 0) 4 := ⟨Tryz.underlying24, Tryz.infoU32, rfl⟩
theorem Jf5 (x : Nat) : (Ju x).oneCell' = true := rfl
def TyB (w : World) (A : Option Addr) (t : TypeId) : Prop := ∀ ad, A = some ad -> ∃ cs fr, w.heap[ad.block]? = some (.cells cs t fr)
theorem Row.ty {α : Type} {w : World} {g : Nat} {t : TypeId} {f : α -> Value} {l : List α} (h : Row w g t f l) : TyB w (some ⟨g, 0, none⟩) t := fun ad e => by
 obtain rfl := Option.some.inj e
 exact ⟨_, _, h⟩
theorem Own.ty {α : Type} {w : World} {e : TypeId} {f : α -> Value} {A : Option Addr} {n c : Nat} {l : List α} (h : Own w e f (.slice A n c) l) : TyB w A e := fun ad ha => by
 rcases h.2 with ⟨h1, _⟩ | ⟨g, cap, cur, h1, _, h3, _⟩
 ·injection h1 with h1 _ _
  rw [h1] at ha
  cases ha
 injection h1 with h1 _ _
 rw [h1] at ha
 obtain rfl := Option.some.inj ha
 exact ⟨_, _, h3⟩
def IsN (w : World) (B : Nat) (v : Value) (n : Nat) : Prop :=
 ∃ A c, v = .slice A (Jd n).length c /\ (Jd n).length <= c /\ c <= 9223372036854775807 /\ Reads w B 1 A (Jd n).length ((Jd n).map Ju) /\ (0 < (Jd n).length -> TyB w A 163)
section
variable {w w' : World} {B B' n : Nat} {v : Value}
theorem IsN.below (h : IsN w B v n) (hb : Below B w w') : IsN w' B v n := by
 obtain ⟨A, c, h1, h2, h3, h4, h5⟩ := h
 refine ⟨A, c, h1, h2, h3, h4.below hb, fun hp ad hA => ?_⟩
 obtain ⟨ad', e1, e2, _⟩ := h4.2 hp
 rw [hA] at e1
 obtain rfl := Option.some.inj e1
 obtain ⟨cs, fr, h6⟩ := h5 hp ad hA
 exact ⟨cs, fr, (hb.block _ e2).trans h6⟩
theorem IsN.next (h : IsN w B v n) (hB : B <= w.heap.size) (hb : Below w.heap.size w w') : IsN w' B v n := h.below (hb.mono hB)
theorem IsN.more (h : IsN w B v n) (hB : B <= B') : IsN w B' v n := by
 obtain ⟨A, c, h1, h2, h3, h4, h5⟩ := h
 exact ⟨A, c, h1, h2, h3, h4.more hB, h5⟩
theorem IsN.nil (w : World) (B : Nat) : IsN w B (.slice none 0 0) 0 := ⟨none, 0, rfl, Nat.le_refl _, by omega, Reads.none_, fun h => absurd h (by rw [Qi]; simp)⟩
theorem IsN.trim {A : Option Addr} {k c : Nat} {l : List Nat} (h : Reads w B 1 A k (l.map Ju)) (hc : k <= c) (aK : c <= 9223372036854775807) (hd : Dig 4294967296 l) (hn : dv 4294967296 l = n) (ht : TyB w A 163) : IsN w B (.slice A (trimL l).length c) n := by
 have hl := h.lenf
 have e := Jlb l hd
 rw [hn] at e
 have aB := Kn l
 refine ⟨A, c, by rw [e], by rw [e]; omega, aK, ?_, fun _ => ht⟩
 rw [e]
 have := h.front (k := (trimL l).length) (by omega)
 rw [Nat.mul_one, <- List.map_take, <- Zc l] at this
 exact this
end
def Jkl (n : Nat) (w : World) (e : Ending) (w' : World) : Prop := ∃ v, e = .returned v /\ IsN w' w'.heap.size v n /\ Below w.heap.size w w'
theorem Yr (A : Option Addr) (n c B : Nat) (l : List Nat) (w : World) (h : Reads w B 1 A n (l.map Ju)) (hn : n <= 9223372036854775807) (hc : n <= c) :
  Calls Tryz.prog 132 #[.slice A n c] w fun e w' => e = .returned (.slice A (trimL l).length c) /\ w = w' := by
 have hl := h.lenf
 have HL := lh hl
 clear hl
 go_enter Tryz.func132, Tryz.ntmps132
 go_wp2
 go_loop [3] (fun v => ∃ k : Nat, k <= n /\ v = .int .i64 (k : Int) /\ Hid (trimL (l.take k) = trimL l)) (fun v => (intOf v).toNat)
 case atStart => exact ⟨n, Nat.le_refl _, rfl, by show _ = _; rw [List.take_of_length_le (by rw [HL.out]; omega)]⟩
 case round =>
  obtain ⟨k, hk, rfl, HK⟩ := hrel
  by_cases h0 : k = 0
  ·subst h0
   go_wp2
   go_ret
   have := HK.out
   rw [<- this]
   exact ⟨rfl, rfl⟩
  obtain ⟨j, rfl⟩ : ∃ j, k = j + 1 := ⟨k - 1, by omega⟩
  obtain ⟨ad, x, hA, hb, hx, j0⟩ := h.atf (show j < n by omega)
  subst hA
  unfold Ju at j0
  have k1 : (((j + 1 : Nat) : Int) - 1) = (j : Int) := by omega
  have k2 : (j : Int) < (n : Int) := by omega
  have k3 : (0 : Int) < ((j + 1 : Nat) : Int) := by omega
  have k4 : ((j + 1 : Nat) : Int) <= (c : Int) := by omega
  have HX := lh hx
  clear hx
  by_cases aC : x = 0
  ·subst aC
   go_wp2
   refine ⟨⟨j, by omega, rfl, ?_⟩, by simp [intOf]⟩
   show _ = _
   rw [<- Ur HX.out]
   exact HK.out
  have bC : ((x : Int) == 0) = false := by simp; omega
  go_wp2
  go_ret
  refine ⟨?_, rfl⟩
  have h1 := HK.out
  rw [Uq HX.out aC] at h1
  rw [<- h1, List.length_take, HL.out, Nat.min_eq_left hk]
  rfl
theorem Jhu (A : Option Addr) (n c B i : Nat) (l : List Nat) (w : World) (h : Reads w B 1 A n (l.map Ju)) (hn : n <= 9223372036854775807) (hd : Dig 4294967296 l) (hi : i <= 9223372036854775807) :
  Calls Tryz.prog 170 #[.slice A n c, .int .i64 (i : Int)] w fun e w' => e = .returned (.int .u64 ((l.getD i 0 : Nat) : Int)) /\ w = w' := by
 by_cases aL : i < n
 ·obtain ⟨ad, x, hA, hb, hx, j0⟩ := h.atf aL
  subst hA
  unfold Ju at j0
  have bD := hd.get hx
  have e : l.getD i 0 = x := by rw [List.getD_eq_getElem?_getD, hx]; rfl
  rw [e]
  have hw : IntKind.u64.wrap (x : Int) = (x : Int) := by rw [Jf, Nat.mod_eq_of_lt (by omega)]
  have k2 : (i : Int) < (n : Int) := by omega
  clear hx e h
  go_enter Tryz.func170, Tryz.ntmps170
  go_wp2
  go_ret
  exact ⟨rfl, rfl⟩
 have hl := h.lenf
 have e : l.getD i 0 = 0 := by rw [List.getD_eq_getElem?_getD, List.getElem?_eq_none (by omega)]; rfl
 rw [e]
 have k2 : ¬ (i : Int) < (n : Int) := by omega
 clear e h hl
 go_enter Tryz.func170, Tryz.ntmps170
 go_wp2
 go_ret
 exact ⟨rfl, rfl⟩
theorem Ja8 (n : Nat) (w : World) (hn : n < 18446744073709551616) : Calls Tryz.prog 98 #[.int .u64 (n : Int)] w (Jkl n w) := by
 obtain ⟨a, ha⟩ : ∃ a, n % 4294967296 = a := ⟨_, rfl⟩
 obtain ⟨b, hb⟩ : ∃ b, n / 4294967296 = b := ⟨_, rfl⟩
 have e1 : IntKind.u32.wrap (n : Int) = (a : Int) := by rw [Qb, ha]
 have e2 : (n : Int) / 4294967296 = (b : Int) := by omega
 have e3 : IntKind.u32.wrap (b : Int) = (b : Int) := by rw [Qb, Nat.mod_eq_of_lt (by omega)]
 have hr : Reads (w.alloc (.cells #[Ju a, Ju b] 163)) (w.heap.size + 1) 1 (some ⟨w.heap.size, 0, none⟩) 2 ([a, b].map Ju) := by
  have := (Row.new w 163 Ju [a, b]).reads
  exact this
 have hd : Dig 4294967296 [a, b] := Dig.cons (by omega) (Dig.cons (by omega) Dig.nil)
 have hv : dv 4294967296 [a, b] = n := by simp only [dv]; omega
 have HV := lh (And.intro ha (And.intro hb hv))
 clear ha hb hv
 go_enter Tryz.func98, Tryz.ntmps98
 go_wp2_with fail
 unfold Ju at hr
 refine (Yr (some ⟨w.heap.size, 0, none⟩) 2 2 _ [a, b] _ hr (by omega) (by omega)).mono ?_
 rintro e w1 ⟨rfl, rfl⟩
 go_wp2
 go_ret
 refine ⟨_, rfl, (IsN.trim hr (by omega) (by omega) hd HV.out.2.2 (Row.ty (Row.new w 163 Ju [a, b]))).more (by simp), Jb _ _⟩
theorem Jai (a b B B' : Nat) (va vb : Value) (w : World) (ha : IsN w B va a) (hb : IsN w B' vb b) (aM : (Jd a).length <= 34359738368) (aN : (Jd b).length <= 34359738368) :
  Calls Tryz.prog 110 #[va, vb] w (Ret (.int .i64 (Qz a b)) w) := by
 obtain ⟨A, c, rfl, bY, bZ, aD, _⟩ := ha
 obtain ⟨A', c', rfl, aO, aP, aE, _⟩ := hb
 obtain ⟨n, hn⟩ : ∃ n, (Jd a).length = n := ⟨_, rfl⟩
 obtain ⟨m, hm⟩ : ∃ m, (Jd b).length = m := ⟨_, rfl⟩
 rw [hn] at aD bY aM
 rw [hm] at aE aO aN
 rw [hn, hm]
 rcases Nat.lt_trichotomy n m with h | h | h
 ·rw [Zq (Jan (show (Jd a).length < (Jd b).length by omega))]
  have e1 : ((n : Int) != (m : Int)) = true := by simp [bne_iff_ne]; omega
  have e2 : (n != m) = true := by simp [bne_iff_ne]; omega
  have e3 : n < m := h
  clear hn hm h
  go_enter Tryz.func110, Tryz.ntmps110
  go_wp2
  go_ret
  exact ⟨rfl, Below.refl _ _⟩
 ·subst h
  have HA := lh (And.intro hn hm)
  have e1 : ((n : Int) != (n : Int)) = false := by simp
  have e2 : (n != n) = false := by simp
  clear hn hm
  go_enter Tryz.func110, Tryz.ntmps110
  go_wp2
  go_loopw [5] (fun p wr => ∃ k : Nat, k <= n /\ p = .int .i64 ((k : Int) - 1) /\ Hid ((Jd a).drop k = (Jd b).drop k) /\ ∃ d, wr = w.drewN d) (fun p _ => (intOf p + 1).toNat)
  case atStart => exact ⟨n, Nat.le_refl _, rfl, lh (by rw [List.drop_of_length_le (by rw [HA.out.1]; omega), List.drop_of_length_le (by rw [HA.out.2]; omega)]), 0, rfl⟩
  case round =>
   obtain ⟨k, hk, rfl, HE, d, rfl⟩ := hrel
   by_cases h0 : k = 0
   ·subst h0
    have he := HE.out
    rw [List.drop_zero, List.drop_zero] at he
    have aQ : a = b := by rw [<- Ql a, he, Ql]
    subst aQ
    clear he
    go_wp2
    go_ret
    exact ⟨by rw [Jar]; rfl, Jw (Below.refl _ _) d⟩
   obtain ⟨j, rfl⟩ : ∃ j, k = j + 1 := ⟨k - 1, by omega⟩
   obtain ⟨ad, x, hA, aR, hx, cA⟩ := (aD.drewN d).atf (show j < n by omega)
   obtain ⟨ad', y, aS, p9, hy, cD⟩ := (aE.drewN d).atf (show j < n by omega)
   subst hA
   subst aS
   unfold Ju at cA cD
   have k1 : (((j + 1 : Nat) : Int) - 1) = (j : Int) := by omega
   have k2 : (j : Int) < (n : Int) := by omega
   have hj : j < n := by omega
   have bE : (j : Int) <= 34359738368 := by omega
   generalize hW : w.drewN d = W at *
   have HW := lh hW
   clear hW
   rcases Nat.lt_trichotomy x y with h | h | h
   ·have j7 := Jbj (Jx a) (Jx b) (by omega) hx hy HE.out h
    rw [Ql, Ql] at j7
    rw [Zq j7]
    have f1 : ((x : Int) != (y : Int)) = true := by simp [bne_iff_ne]; omega
    have f2 : (x != y) = true := by simp [bne_iff_ne]; omega
    have f3 : (x : Int) < (y : Int) := by omega
    clear hx hy j7
    rw [k1]
    go_wp2_with fail
    go_region
    go_wp2
    go_region
    go_wp2
    go_ret
    refine ⟨rfl, ?_⟩
    rw [<- HW.out]
    exact Jw (Jw (Jw (Below.refl _ _) d) 1) 1
   ·subst h
    have f1 : ((x : Int) != (x : Int)) = false := by simp
    have f2 : (x != x) = false := by simp
    have j6 : (Jd a).drop j = (Jd b).drop j := by
     rw [List.drop_eq_getElem?_toList_append, List.drop_eq_getElem?_toList_append (l := Jd b), hx, hy, HE.out]
    have HN := lh j6
    clear hx hy j6
    rw [k1]
    go_wp2_with fail
    go_region
    go_wp2
    refine ⟨⟨j, by omega, rfl, HN, d + 1, ?_⟩, by simp [intOf]⟩
    rw [<- HW.out]
    rfl
   have j7 := Jbj (Jx b) (Jx a) (by omega) hy hx HE.out.symm h
   rw [Ql, Ql] at j7
   rw [Kh j7]
   have f1 : ((x : Int) != (y : Int)) = true := by simp [bne_iff_ne]; omega
   have f2 : (x != y) = true := by simp [bne_iff_ne]; omega
   have f3 : ¬ (x : Int) < (y : Int) := by omega
   clear hx hy j7
   rw [k1]
   go_wp2_with fail
   go_region
   go_wp2
   go_region
   go_wp2
   go_ret
   refine ⟨rfl, ?_⟩
   rw [<- HW.out]
   exact Jw (Jw (Jw (Below.refl _ _) d) 1) 1
 rw [Kh (Jan (show (Jd b).length < (Jd a).length by omega))]
 have e1 : ((n : Int) != (m : Int)) = true := by simp [bne_iff_ne]; omega
 have e2 : (n != m) = true := by simp [bne_iff_ne]; omega
 have e3 : ¬ n < m := by omega
 clear hn hm h
 go_enter Tryz.func110, Tryz.ntmps110
 go_wp2
 go_ret
 exact ⟨rfl, Below.refl _ _⟩
theorem Jkh (x : Nat) (h : 0 < x) : Je x = Je (x / 2) + 1 := by
 obtain ⟨h1, h2, h3⟩ := Xe x (by omega)
 rcases Nat.lt_or_ge x 2 with h4 | h4
 ·obtain rfl : x = 1 := by omega
  rfl
 obtain ⟨k, hk⟩ : ∃ k, Je x = k + 2 := by
  refine ⟨Je x - 2, ?_⟩
  have : ¬ Je x = 1 := fun e => by rw [e] at h3; omega
  omega
 rw [hk] at h2 h3 ⊢
 have e1 : (2 : Nat) ^ (k + 2 - 1) = 2 ^ k * 2 := by rw [show k + 2 - 1 = k + 1 by omega, Nat.pow_succ]
 have e2 : (2 : Nat) ^ (k + 2) = 2 ^ (k + 1) * 2 := by rw [<- Nat.pow_succ]
 rw [Jfr (x / 2) k (by omega) (by omega)]
theorem Jk3 (a B : Nat) (v : Value) (w : World) (h : IsN w B v a) (hl : (Jd a).length <= 34359738368) : Calls Tryz.prog 135 #[v] w fun e w' => e = .returned (.int .i64 ((Je a : Nat) : Int)) /\ w = w' := by
 obtain ⟨A, c, rfl, bY, bZ, hr, _⟩ := h
 obtain ⟨n, hn⟩ : ∃ n, (Jd a).length = n := ⟨_, rfl⟩
 rw [hn] at hr bY hl
 rw [hn]
 by_cases h0 : a = 0
 ·subst h0
  obtain rfl : 0 = n := hn
  go_enter Tryz.func135, Tryz.ntmps135
  go_wp2
  go_ret
  exact ⟨rfl, rfl⟩
 obtain ⟨t, ht, aT, aF⟩ := Jbe a h0
 have cB := Jhd ht aT
 have bF : 0 < n := by
  rcases Nat.eq_zero_or_pos n with h1 | h1
  ·exact absurd ((Ks a).1 (by omega)) h0
  exact h1
 obtain ⟨j, rfl⟩ : ∃ j, n = j + 1 := ⟨n - 1, by omega⟩
 rw [hn] at ht cB
 rw [show j + 1 - 1 = j by omega] at ht cB
 obtain ⟨ad, x, hA, aR, hx, cA⟩ := hr.atf (show j < j + 1 by omega)
 obtain rfl : t = x := by rw [ht] at hx; exact Option.some.inj hx
 subst hA
 unfold Ju at cA
 have k1 : (((j + 1 : Nat) : Int) - 1) = (j : Int) := by omega
 have k2 : (((j + 1 : Nat) : Int) == 0) = false := by simp; omega
 have k3 : ((j + 1) == 0) = false := by simp
 have k4 : (j : Int) < ((j + 1 : Nat) : Int) := by omega
 have HB := lh cB
 clear hx ht hn cB hr
 go_enter Tryz.func135, Tryz.ntmps135
 go_wp2
 go_loop [3, 4] (fun p q => ∃ k y : Nat, k <= 64 /\ k + Je y <= 64 /\ y < 4294967296 /\ p = .int .i64 (32 * (j : Int) + (k : Int)) /\ q = .int .u32 (y : Int) /\ Hid (Je t = k + Je y)) (fun _ q => (intOf q).toNat)
 case atStart =>
  have := Yb t 32 aF
  exact ⟨0, t, by omega, by omega, aF, by simp, rfl, lh (by omega)⟩
 case round =>
  obtain ⟨k, y, hk, bG, aG, rfl, rfl, HK⟩ := hrel
  by_cases hy : 0 < y
  ·have bH : (0 : Int) < (y : Int) := by omega
   have hh := Jkh y hy
   have HH := lh hh
   clear hh
   go_wp2
   refine ⟨⟨k + 1, y / 2, ?_, ?_, by omega, ?_, ?_, ?_⟩, ?_⟩
   ·have := HH.out; omega
   ·have := HH.out; omega
   ·go_num
   ·simp
   ·exact lh (by have := HH.out; have := HK.out; omega)
   simp [intOf]; omega
  obtain rfl : y = 0 := by omega
  go_wp2
  go_ret
  refine ⟨Jb9 ?_, rfl⟩
  have h1 := HK.out
  have h2 := HB.out
  rw [Jep] at h1
  omega
theorem Jqk (n j x : Nat) (h : (Jd n)[j]? = some x) : x = n / 4294967296 ^ j % 4294967296 := by
 have h1 := Zx (Jx n) (by omega) j
 rw [Ql, Qa h] at h1
 have := (Jx n).get h
 rw [h1]
 omega
theorem Jqq (n i x : Nat) (h : (Jd n)[i / 4]? = some x) : (x : Int) / 2 ^ (8 * (i % 4)) % 256 = ((Zr n i).toNat : Int) := by
 have hx := Jqk n _ x h
 have e : (x : Int) / 2 ^ (8 * (i % 4)) % 256 = ((x / 256 ^ (i % 4) % 256 : Nat) : Int) := by
  rw [Int.natCast_emod, Int.natCast_ediv, Int.natCast_pow]
  congr 2
  rw [Int.pow_mul]
  rfl
 rw [e]
 unfold Zr
 have e2 : n / 256 ^ i % 256 = x / 256 ^ (i % 4) % 256 := by
  have hp : (256 : Nat) ^ i = 4294967296 ^ (i / 4) * 256 ^ (i % 4) := by
   rw [show (4294967296 : Nat) = 256 ^ 4 from rfl, <- Nat.pow_mul, <- Nat.pow_add]
   congr 1
   omega
  rw [hp, <- Nat.div_div_eq_div_mul, hx]
  generalize n / 4294967296 ^ (i / 4) = z
  have hr : i % 4 < 4 := by omega
  generalize i % 4 = r at *
  have h4 : r = 0 \/ r = 1 \/ r = 2 \/ r = 3 := by omega
  rcases h4 with rfl | rfl | rfl | rfl <;> simp <;> omega
 rw [e2]
 simp
def Jqr (w : World) (n g B : Nat) (A : Option Addr) (i : Nat) (wr : World) : Prop :=
 Row wr g 5 u8v (List.replicate (Xs n - i) 0 ++ Qu n i) /\ Below w.heap.size w wr /\ Reads wr B 1 A (Jd n).length ((Jd n).map Ju)
theorem Jqj (a B : Nat) (va : Value) (w : World) (h : IsN w B va a) (hB : B <= w.heap.size) (ha : Je a <= 1099511627776) :
  Calls Tryz.prog 104 #[va] w fun e w' => ∃ v, e = .returned v /\ NewB w w' v (Jgt a) := by
 have bU := Jk3 a B va w h (Jbv a ha)
 obtain ⟨A, c, rfl, bY, bZ, hr, _⟩ := h
 have bQ := Jip a
 obtain ⟨N, hN⟩ : ∃ N, Xs a = N := ⟨_, rfl⟩
 have bL : ((Je a : Int) + 7) / 8 = (N : Int) := by unfold Xs at hN; omega
 have bT : N <= 140737488355328 := by omega
 have aW := Qh (P := Tryz.prog) u8v 0 135 5 1 Tryz.underlying135 Tryz.infoU8 rfl .i64 .i64 N (by omega) (by omega)
 have HN := lh hN
 obtain ⟨L, hL⟩ : ∃ L, (Jd a).length = L := ⟨_, rfl⟩
 rw [hL] at bU
 rw [hL]
 have HBITS := lh bU
 clear hN bU
 have bM : ∀ i, i < N -> i / 4 < L := fun i hi => by
  have := HN.out
  unfold Xs at this
  omega
 have HLN := lh bM
 have HL := lh hL
 have bN := lh hr
 rw [hL] at bY
 clear bM bQ hr hL
 go_enter Tryz.func104, Tryz.ntmps104
 go_wp2_with fail
 refine HBITS.out.mono ?_
 rintro e w1 ⟨rfl, rfl⟩
 clear HBITS
 go_wp2_with fail
 rw [bL]
 have bK := Row.rep w 5 u8v 0 N
 have bO := Jb w (.cells (Array.replicate N (u8v 0)) 5)
 have aA := bN.out.alloc hB (.cells (Array.replicate N (u8v 0)) 5)
 clear aW bL bN
 obtain ⟨g, hg⟩ : ∃ g, w.heap.size = g := ⟨_, rfl⟩
 have HG := lh hg
 rw [hg] at bK hB
 rw [hg]
 clear hg
 go_loopw [5] (fun y wr => ∃ i : Nat, i <= N /\ y = .int .i64 i /\ Jqr w a g B A i wr) (fun y _ => N - (intOf y).toNat)
 case atStart => exact ⟨0, Nat.zero_le _, rfl, by rw [HN.out]; simpa [Qu] using bK, bO, aA⟩
 case round =>
  obtain ⟨i, hi, rfl, h1, h2, h3⟩ := hrel
  clear bK bO aA
  rw [HN.out] at h1
  by_cases j7 : i < N
  ·have bR := HLN.out i j7
   rw [HL.out] at h3
   obtain ⟨ad, x, hA, hb, hx, hc⟩ := h3.atf bR
   have e1 := Jqq a i x hx
   obtain ⟨y, hy⟩ : ∃ y, Zr a i = y := ⟨_, rfl⟩
   rw [hy] at e1
   have HY := lh hy
   clear hy hx
   subst hA
   unfold Ju at hc
   have j0 := h1.cell (k := N - 1 - i) (x := 0) (by rw [List.getElem?_append_left (by simp; omega), List.getElem?_replicate]; simp; omega)
   have bJ := h1.frozen (N - 1 - i)
   have bP := Ji3 a N i j7
   have HNX := lh bP
   unfold u8v at j0
   clear bP
   have k1 : ((N : Int) - 1 - (i : Int)).toNat = N - 1 - i := by omega
   have k2 : (0 : Int) <= (N : Int) - 1 - (i : Int) := by omega
   have k3 : (N : Int) - 1 - (i : Int) < (N : Int) := by omega
   have k4 : ((i : Int) / 4) < (L : Int) := by omega
   go_wp2
   have bS := HG.out
   refine ⟨⟨i + 1, by omega, by go_num, ?_, h2.setCell (by simp; omega) _, ?_⟩, by simp [intOf]; omega⟩
   ·have h6 := h1.set_ (N - 1 - i) y
    rw [<- HY.out, HNX.out, HY.out] at h6
    rw [HN.out]
    exact h6
   rw [HL.out]
   exact Reads.setFar h3 (fun ad' h => by cases h; simp; omega) _
  obtain rfl : i = N := by omega
  go_wp2
  go_ret
  rw [Nat.sub_self, List.replicate_zero, List.nil_append] at h1
  have h5 : Jgt a = Qu a i := by unfold Jgt; rw [HN.out]
  have ho := Own.ofBlk h1 (by rw [Zp]; unfold maxLen; omega)
  rw [Zp] at ho
  rw [h5]
  have bS := HG.out
  exact ⟨_, rfl, ho, h2, fun k hk => by simp [Value.ownBlock] at hk; omega⟩
theorem Jgl (m b r : Nat) (hm : 256 ^ (r + 1) * m < 4294967296) (hb : b < 256) (hr : r < 4) :
  bits .or .u32 ((256 ^ (r + 1) * m : Nat) : Int) (IntKind.u32.wrap ((b : Int) * 2 ^ (8 * r))) = ((256 ^ (r + 1) * m + b * 256 ^ r : Nat) : Int) /\ 256 ^ (r + 1) * m + b * 256 ^ r < 4294967296 := by
 have p : (256 : Nat) ^ r = 2 ^ (8 * r) := by rw [Nat.pow_mul]
 have p1 : (256 : Nat) ^ (r + 1) = 2 ^ (8 * (r + 1)) := by rw [Nat.pow_mul]
 have p9 : b * 256 ^ r < 256 ^ (r + 1) := by
  rw [Nat.pow_succ, Nat.mul_comm]
  exact Nat.mul_lt_mul_of_pos_left hb (Nat.pow_pos (by omega))
 have aB : (256 : Nat) ^ (r + 1) <= 256 ^ 4 := Nat.pow_le_pow_right (by omega) (by omega)
 have h4 : 256 ^ (r + 1) * m + b * 256 ^ r < 4294967296 := by
  have e : (4294967296 : Nat) = 256 ^ (r + 1) * 256 ^ (3 - r) := by
   rw [<- Nat.pow_add, show r + 1 + (3 - r) = 4 by omega]
  rw [e] at hm ⊢
  have aU : m < 256 ^ (3 - r) := Nat.lt_of_mul_lt_mul_left hm
  have h5 := Nat.mul_le_mul_left (256 ^ (r + 1)) (show m + 1 <= 256 ^ (3 - r) from aU)
  rw [Nat.mul_succ] at h5
  omega
 have hs : b * 256 ^ r < 4294967296 := Nat.lt_of_lt_of_le p9 (by simpa using aB)
 refine ⟨?_, h4⟩
 rw [show (b : Int) * 2 ^ (8 * r) = ((b * 256 ^ r : Nat) : Int) from by rw [Int.natCast_mul, p, Int.natCast_pow]; rfl, Qb, Nat.mod_eq_of_lt hs, Jne _ _ hm hs]
 congr 1
 rw [p1] at p9 ⊢
 exact (Nat.two_pow_add_eq_or_of_lt p9 m).symm
def Jol (w : World) (g L : Nat) (v : Nat) (wr : World) : Prop := ∃ l : List Nat, Row wr g 163 Ju l /\ l.length = L /\ Dig 4294967296 l /\ dv 4294967296 l = v /\ Below w.heap.size w wr
theorem Jk2 (A : Option Addr) (n c B : Nat) (bs : List UInt8) (w : World) (h : Bytes w B A n bs) (hB : B <= w.heap.size) (hn : n <= 1099511627776) :
  Calls Tryz.prog 136 #[.slice A n c] w (Jkl (Xh bs) w) := by
 have hl := h.len
 obtain ⟨L, hL⟩ : ∃ L, (n + 3) / 4 = L := ⟨_, rfl⟩
 have aV : ((n : Int) + 3) / 4 = (L : Int) := by omega
 have aW := Qh (P := Tryz.prog) Ju 0 24 163 4 Tryz.underlying24 Tryz.infoU32 rfl .i64 .i64 L (by omega) (by omega)
 have HL := lh (And.intro hl hL)
 clear hl
 have bI : L <= 1099511627776 := by omega
 clear hL
 go_enter Tryz.func136, Tryz.ntmps136
 go_wp2_with fail
 clear aW aV
 have bV := Row.rep w 163 Ju 0 L
 have j9 := Jb w (.cells (Array.replicate L (Ju 0)) 163)
 obtain ⟨g, hg⟩ : ∃ g, w.heap.size = g := ⟨_, rfl⟩
 have HG := lh hg
 have aX : w.heap.size <= g := by omega
 rw [hg] at bV
 rw [hg]
 clear hg
 go_loopw [4, 5] (fun i x wr => ∃ k : Nat, k <= n /\ i = .int .i64 k /\ Jol w g L (Xh (bs.take k) * 256 ^ (n - k)) wr) (fun i _ _ => n - (intOf i).toNat)
 case atStart =>
  refine ⟨0, Nat.zero_le _, rfl, _, bV, by simp, Dig.rep (by omega) _, ?_, j9⟩
  rw [Yx, List.take_zero]
  simp [Xh]
 case round =>
  obtain ⟨i, hi, rfl, l, hr, o0, j8, bW, bX⟩ := hrel
  have HLEN := lh o0
  have HDV := lh bW
  clear o0 bW bV j9
  by_cases j7 : i < n
  ·have h4 : Bytes wr B A n bs := Reads.below h (bX.mono hB)
   obtain ⟨ad, x, hA, hb, hx, cA⟩ := h4.at_ j7
   subst hA
   obtain ⟨k, hk⟩ : ∃ k, n - 1 - i = k := ⟨_, rfl⟩
   obtain ⟨j, hj⟩ : ∃ j, k / 4 = j := ⟨_, rfl⟩
   obtain ⟨r, aY⟩ : ∃ r, k % 4 = r := ⟨_, rfl⟩
   have aZ : j < L := by have := HL.out.2; omega
   have aH : k = 4 * j + r := by omega
   have bA : r < 4 := by omega
   obtain ⟨y, hy⟩ : ∃ y, l[j]? = some y := ⟨_, List.getElem?_eq_getElem (by rw [HLEN.out]; exact aZ)⟩
   obtain ⟨V, hV⟩ : ∃ V, Xh (bs.take i) = V := ⟨_, rfl⟩
   have bW := HDV.out
   rw [hV, show n - i = k + 1 by omega] at bW
   have aI : (256 : Nat) ^ (k + 1) = 256 ^ (r + 1) * 4294967296 ^ j := by
    rw [show (4294967296 : Nat) = 256 ^ 4 from rfl, <- Nat.pow_mul, <- Nat.pow_add]
    congr 1
    omega
   have aG := j8.get hy
   have s9 : y = 256 ^ (r + 1) * (V % 256 ^ (3 - r)) := by
    have h1 := Zx j8 (by omega) j
    rw [Qa hy, bW, aI, <- Nat.mul_assoc, Nat.mul_div_cancel _ (Nat.pow_pos (by omega))] at h1
    have h2 : V * 256 ^ (r + 1) % 4294967296 = y := by rw [h1]; omega
    rw [<- h2, show (4294967296 : Nat) = 256 ^ (r + 1) * 256 ^ (3 - r) from by rw [<- Nat.pow_add, show r + 1 + (3 - r) = 4 by omega], Nat.mul_comm V, Nat.mul_mod_mul_left]
   obtain ⟨m, hm⟩ : ∃ m, V % 256 ^ (3 - r) = m := ⟨_, rfl⟩
   rw [hm] at s9
   have aJ := Jgl m x.toNat r (by rw [<- s9]; exact aG) (by have := x.toNat_lt; omega) bA
   rw [<- s9] at aJ
   have j6 : dv 4294967296 (l.set j (y + x.toNat * 256 ^ r)) = Xh (bs.take (i + 1)) * 256 ^ (n - (i + 1)) := by
    have h5 := Yl (β := 4294967296) (y + x.toNat * 256 ^ r) hy
    rw [Jiq bs i x hx, hV, show n - (i + 1) = k by omega, Nat.add_mul, Nat.mul_assoc V 256, Nat.mul_comm 256, <- Nat.pow_succ, <- bW]
    rw [Nat.add_mul] at h5
    have h7 : x.toNat * 256 ^ k = x.toNat * 256 ^ r * 4294967296 ^ j := by
     rw [aH, show (4294967296 : Nat) = 256 ^ 4 from rfl, <- Nat.pow_mul, Nat.mul_assoc, <- Nat.pow_add, Nat.add_comm r]
    rw [h7]
    omega
   obtain ⟨cE, y9⟩ := aJ
   have bB : bits .or .u32 (y : Int) ((x.toNat : Int) * 2 ^ (8 * r) % 4294967296) = ((y + x.toNat * 256 ^ r : Nat) : Int) := cE
   generalize y + x.toNat * 256 ^ r = z at *
   have cD := hr.cell (k := j) (x := y) hy
   have bJ := hr.frozen j
   unfold Ju at cD
   have HX := lh j6
   clear j6 hx hy s9 hm bW aI hV aH h4
   have c1 : ((k : Int) / 4) = (j : Int) := by omega
   have c2 : ((k : Int) % 4) = (r : Int) := by omega
   have c3 : (n : Int) - 1 - (i : Int) = (k : Int) := by omega
   have c5 : (i : Int) < (n : Int) := by omega
   have c6 : (j : Int) < (L : Int) := by omega
   have c7 : (8 : Int) * (r : Int) <= 24 := by omega
   have c8 : IntKind.u32.wrap (x.toNat : Int) = (x.toNat : Int) := by rw [Qb, Nat.mod_eq_of_lt (by have := x.toNat_lt; omega)]
   clear hj aY hk
   go_wp2_with fail
   go_region
   go_wp2
   refine ⟨⟨i + 1, by omega, by go_num, l.set j z, ?_, by rw [List.length_set]; exact HLEN.out, j8.set_ j y9, HX.out, ?_⟩, by simp [intOf]; omega⟩
   ·exact (hr.set_ j z).drewN 1
   exact Jw (bX.setCell aX _) 1
  obtain rfl : i = n := by omega
  have o9 := HDV.out
  rw [Nat.sub_self, Nat.pow_zero, Nat.mul_one, List.take_of_length_le (by rw [HL.out.1]; omega)] at o9
  have aA := Own.reads (Own.ofBlk hr (by rw [HLEN.out]; unfold maxLen; omega))
  rw [HLEN.out] at aA
  go_wp2_with fail
  refine (Yr _ L L _ l wr aA (by omega) zd).mono ?_
  rintro e w5 ⟨rfl, rfl⟩
  go_wp2
  go_ret
  exact ⟨_, rfl, IsN.trim aA zd (by omega) j8 o9 hr.ty, bX⟩
