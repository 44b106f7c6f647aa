import Derived.RegionTactic
import Derived.BigRegion
import Derived.Shelf.Spec.TrailingZeros
import Derived.Test.YtacbcaebaomglaaGreatDoorNatC
namespace Go.Proofs.YtacbcaebaomglaaGreatDoor
set_option maxRecDepth 100000
set_option maxHeartbeats 1000000
open Go.RowKit
set_option linter.all false
theorem Jdg (A : Option Addr) (n c B : Nat) (l : List Nat) (w : World) (h : Reads w B 1 A n (l.map Jk)) (hn : n <= 9223372036854775807) (hc : n <= c) :
  Calls Tryz.prog 181 #[.slice A n c] w fun e w' => e = .returned (.slice A (trimL l).length c) /\ w = w' := by
 have hl := h.lenf
 have HL := lh hl
 clear hl
 go_enter Tryz.func181, Tryz.ntmps181
 go_wp2
 go_loop [0] (fun v => ∃ k : Nat, k <= n /\ v = .slice A k c /\ Hid (trimL (l.take k) = trimL l)) (fun v => lenOf v)
 case atStart => exact ⟨n, Nat.le_refl _, rfl, by show _ = _; rw [List.take_of_length_le (by rw [HL.out]; omega)]⟩
 case round =>
  obtain ⟨k, hk, rfl, HK⟩ := hrel
  by_cases h0 : k = 0
  ·subst h0
   go_wp2
   go_ret
   have := HK.out
   rw [<- this]
   exact ⟨rfl, rfl⟩
  obtain ⟨j, rfl⟩ : ∃ j, k = j + 1 := ⟨k - 1, by omega⟩
  obtain ⟨ad, x, hA, hb, hx, e8⟩ := h.atf (show j < n by omega)
  subst hA
  unfold Jk at e8
  have k1 : (((j + 1 : Nat) : Int) - 1) = (j : Int) := by omega
  have k2 : (j : Int) < ((j + 1 : Nat) : Int) := by omega
  have k3 : (0 : Int) < ((j + 1 : Nat) : Int) := by omega
  have k4 : (j : Int) <= (c : Int) := by omega
  have HX := lh hx
  clear hx
  by_cases e9 : x = 0
  ·subst e9
   go_wp2
   refine ⟨⟨j, by omega, rfl, ?_⟩, by simp [lenOf]⟩
   show _ = _
   rw [<- Vw HX.out]
   exact HK.out
  have aD : ((x : Int) == 0) = false := by simp; omega
  go_wp2
  go_ret
  refine ⟨?_, rfl⟩
  have h1 := HK.out
  rw [Vv HX.out e9] at h1
  rw [<- h1, List.length_take, HL.out, Nat.min_eq_left hk]
  rfl
def Win (w : World) (g : Nat) (v : Value) (l : List Nat) : Prop :=
 ∃ c pre post, v = .slice (some ⟨g, pre.length, none⟩) l.length c /\ l.length <= c /\ c <= 1099511627776 /\ Row w g 59 Jk (pre ++ l ++ post)
theorem Jaj (n i : Nat) : Xv (Qi n i) = n % 256 ^ i := by
 induction i with
 | zero => simp [Qi, Xv, Nat.mod_one]
 | succ i ih =>
  rw [Qi, Jem, Zd, ih]
  have : (Zn n i).toNat = n / 256 ^ i % 256 := by
   unfold Zn
   simp
  rw [this, Nat.pow_succ, Nat.mod_mul, Nat.mul_comm, Nat.add_comm]
theorem Jkw (n : Nat) : n < 256 ^ Xb n := by
 refine Nat.lt_of_lt_of_le (Uk n) ?_
 rw [show (256 : Nat) = 2 ^ 8 from rfl, <- Nat.pow_mul]
 refine Nat.pow_le_pow_right (by omega) ?_
 unfold Xb
 omega
theorem Jbk (n : Nat) : Xv (Jc1 n) = n := by
 unfold Jc1
 rw [Jaj, Nat.mod_eq_of_lt (Jkw n)]
theorem Jke (n : Nat) : (Xb n + 7) / 8 = (Jf n).length := by
 by_cases h0 : n = 0
 ·subst h0
  rw [Qh]
  have : Je 0 = 0 := by rw [<- Nat.le_zero]; exact Zw 0 0 (by omega)
  unfold Xb
  rw [this]
  rfl
 have h1 := Ky n h0
 have h2 := (Qz (top n)).2 (Xx n h0).2.1
 have h3 := Yd (top n) (by have := Kp n; exact this _ (by rw [(Xx n h0).1]; simp))
 have h4 : 1 <= (Jf n).length := by rw [Qd n h0]; simp
 unfold Xb
 omega
theorem Jf5 (l : List Nat) (n : Nat) (h : Dig 18446744073709551616 l) (he : dv 18446744073709551616 l = n) (hl : l.length = (Jf n).length) : l = Jf n := by
 have h1 := Jbo l h
 rw [he] at h1
 rw [h1] at hl ⊢
 rw [Zy, <- hl, List.take_length]
theorem Jct (a : Nat) (w : World) (ha : Je a <= 1099511627776) :
  Calls Tryz.prog 154 #[Jh a] w fun e w' => ∃ g v, e = .returned v /\ Win w' g v (Jf a) /\ w.heap.size <= g /\ Below w.heap.size w w' := by
 have x7 := fun w => Jfi a w (by omega)
 have aJ : Xb a <= 137438953472 := by unfold Xb; omega
 have p9 := Jke a
 have aE := Jbk a
 have o6 := Jdx a
 unfold Jh at x7 ⊢
 have HBY := lh x7
 have HBV := lh aE
 clear x7 aE
 go_enter Tryz.func154, Tryz.ntmps154
 go_wp2_with fail
 have x8 : Below w.heap.size w (w.alloc (.cells #[.int .u64 (lo a : Int), .string (mo a)] 61)) := (Below.refl _ _).alloc zd _
 generalize w.alloc (.cells #[.int .u64 (lo a : Int), .string (mo a)] 61) = W at *
 refine (HBY.out W).mono ?_
 rintro e w1 ⟨v1, rfl, q8, s9, aK⟩
 obtain ⟨A, c1, x9, aF, bA⟩ := q8.form
 rw [x9] at q8
 rw [x9]
 have t7 := Own.reads q8
 rw [o6] at t7 aF
 rw [o6]
 clear x9 aK q8
 have aG : Below w.heap.size w w1 := x8.trans (s9.mono x8.size)
 clear x8 s9
 obtain ⟨n, hn⟩ : ∃ n, Xb a = n := ⟨_, rfl⟩
 rw [hn] at t7 aF p9 aJ o6
 rw [hn]
 obtain ⟨L, hL⟩ : ∃ L, (n + 7) / 8 = L := ⟨_, rfl⟩
 rw [hL] at p9
 have aL : ((n : Int) + 7) / 8 = (L : Int) := by omega
 have aM := Qf (P := Tryz.prog) Jk 0 178 59 8 Tryz.underlying178 Tryz.infoU64 rfl .i64 .i64 L (by omega) (by omega)
 have HL := lh (And.intro o6 hL)
 have HWL := lh p9
 clear o6
 have bB : L <= 1099511627776 := by omega
 clear hL p9 hn
 generalize Jc1 a = bs at *
 go_wp2_with fail
 clear aM aL
 have j7 := Row.rep w1 59 Jk 0 L
 have j0 := (Below.refl w1.heap.size w1).alloc zd (.cells (Array.replicate L (Jk 0)) 59)
 obtain ⟨g, hg⟩ : ∃ g, w1.heap.size = g := ⟨_, rfl⟩
 rw [hg] at j7 j0 t7 ⊢
 have aH : w.heap.size <= g := by rw [<- hg]; exact aG.size
 have HG := lh hg
 clear hg
 go_loopw [5, 15] (fun x i wr => ∃ k : Nat, k <= n /\ i = .int .i64 k /\ Jn3 w1 g L (Xv (bs.drop (n - k))) wr) (fun _ i _ => n - (intOf i).toNat)
 case atStart =>
  refine ⟨0, Nat.zero_le _, rfl, _, j7, by simp, Dig.rep (by omega) _, ?_, j0⟩
  rw [Kk, Nat.sub_zero, List.drop_of_length_le (by rw [HL.out.1]; omega)]
  rfl
 case round =>
  obtain ⟨i, hi, rfl, l, hr, o7, j8, aI, j9⟩ := hrel
  have HLEN := lh o7
  have HDV := lh aI
  clear o7 aI j7 j0
  by_cases o8 : i < n
  ·have h4 : Bytes wr g A n bs := Reads.below t7 j9
   obtain ⟨ad, x, hA, hb, hx, bC⟩ := h4.at_ (show n - 1 - i < n by omega)
   subst hA
   obtain ⟨j, hj⟩ : ∃ j, i / 8 = j := ⟨_, rfl⟩
   obtain ⟨r, bD⟩ : ∃ r, i % 8 = r := ⟨_, rfl⟩
   have aN : j < L := by have := HL.out.2; omega
   obtain ⟨y, hy⟩ : ∃ y, l[j]? = some y := ⟨_, List.getElem?_eq_getElem (by rw [HLEN.out]; exact aN)⟩
   have o9 : y < 256 ^ r := by
    have h5 := Jfw (β := 18446744073709551616) hy
    have h6 := Jin (bs.drop (n - i))
    rw [HDV.out] at h5
    have h8 : (256 : Nat) ^ i = 18446744073709551616 ^ j * 256 ^ r := by rw [show i = 8 * j + r from by omega, Nat.pow_add, Nat.pow_mul]
    rw [List.length_drop, HL.out.1, show n - (n - i) = i from by omega, h8] at h6
    have h7 : y * 18446744073709551616 ^ j < 256 ^ r * 18446744073709551616 ^ j := by
     rw [Nat.mul_comm (256 ^ r)]
     exact Nat.lt_of_le_of_lt h5 h6
    exact Nat.lt_of_mul_lt_mul_right h7
   have aO := Jj3 y x.toNat r o9 (by have := x.toNat_lt; omega) (by omega)
   have p7 : dv 18446744073709551616 (l.set j (y + x.toNat * 256 ^ r)) = Xv (bs.drop (n - (i + 1))) := by
    have h5 := Yx (β := 18446744073709551616) (y + x.toNat * 256 ^ r) hy
    have h6 := Jel bs i x (by rw [HL.out.1]; exact o8) (by rw [HL.out.1]; exact hx)
    rw [HL.out.1] at h6
    rw [HDV.out, Nat.add_mul] at h5
    have h7 : x.toNat * 256 ^ i = x.toNat * 256 ^ r * 18446744073709551616 ^ j := by
     rw [show i = 8 * j + r from by omega, Nat.pow_add, Nat.pow_mul, Nat.mul_assoc, Nat.mul_comm (256 ^ r)]
    rw [h6, h7]
    omega
   obtain ⟨aP, y8⟩ := aO
   generalize y + x.toNat * 256 ^ r = z at *
   have aQ := hr.cell (k := j) (x := y) hy
   have bE := hr.frozen j
   unfold Jk at aQ
   have HX := lh (And.intro p7 (And.intro hx hy))
   clear p7 hx hy o9
   have c1 : ((i : Int) / 8) = (j : Int) := by omega
   have c2 : ((i : Int) % 8) = (r : Int) := by omega
   have c3 : ((n : Int) - 1 - (i : Int)).toNat = n - 1 - i := by omega
   have c4 : (0 : Int) <= (n : Int) - 1 - (i : Int) := by omega
   have c5 : (n : Int) - 1 - (i : Int) < (n : Int) := by omega
   have c6 : (j : Int) < (L : Int) := by omega
   have c7 : (8 : Int) * (r : Int) <= 56 := by omega
   have c8 := Ja4 x
   go_wp2_with fail
   go_region
   go_wp2
   refine ⟨⟨i + 1, by omega, by go_num, l.set j z, ?_, by rw [List.length_set]; exact HLEN.out, j8.set_ j y8, HX.out.1, ?_⟩, by simp [intOf]; omega⟩
   ·exact (hr.drewN 1).set_ j z
   exact (Jy j9 1).setCell zd _
  obtain rfl : i = n := by omega
  have o0 := HDV.out
  rw [Nat.sub_self, List.drop_zero, HBV.out] at o0
  have t8 := Jf5 l a j8 o0 (by rw [HLEN.out]; exact HWL.out)
  have p8 : Below w.heap.size w wr := aG.trans (j9.mono aH)
  have HF : Hid (Win wr g (.slice (some ⟨g, 0, none⟩) L L) (Jf a) /\ w.heap.size <= g /\ Below w.heap.size w wr) := by
   refine ⟨⟨L, [], [], ?_, ?_, by omega, ?_⟩, aH, p8⟩
   ·rw [<- t8, HLEN.out]; rfl
   ·rw [<- t8, HLEN.out]; exact Nat.le_refl _
   rw [<- t8]; simpa using hr
  clear hr j8 p8 t8 o0
  go_wp2
  go_ret
  exact ⟨g, _, rfl, HF.out⟩
def tz (n : Nat) : Nat := Lib.ctzFrom n n
theorem Jnu {n t m : Nat} (h : n = 2 ^ t * (2 * m + 1)) : tz n = t := by
 have hp : 0 < 2 ^ t := Nat.two_pow_pos t
 have h0 : 0 < n := by rw [h]; exact Nat.mul_pos hp (by omega)
 obtain ⟨m', h1, h2⟩ := Lib.ctzFrom_spec n n h0 Nat.lt_two_pow_self
 unfold tz
 generalize Lib.ctzFrom n n = s at *
 rw [h] at h1
 rcases Nat.lt_trichotomy s t with hl | hl | hl
 ·obtain ⟨k, rfl⟩ : ∃ k, t = s + (k + 1) := ⟨t - s - 1, by omega⟩
  rw [Nat.pow_add, Nat.mul_assoc] at h1
  have h3 := Nat.eq_of_mul_eq_mul_left (Nat.two_pow_pos s) h1
  rw [Nat.pow_succ, Nat.mul_comm (2 ^ k), Nat.mul_assoc] at h3
  omega
 ·exact hl
 obtain ⟨k, rfl⟩ : ∃ k, s = t + (k + 1) := ⟨s - t - 1, by omega⟩
 rw [Nat.pow_add, Nat.mul_assoc] at h1
 have h3 := Nat.eq_of_mul_eq_mul_left (Nat.two_pow_pos t) h1
 rw [Nat.pow_succ, Nat.mul_comm (2 ^ k), Nat.mul_assoc] at h3
 omega
theorem Jc7 (n : Nat) (h : n ≠ 0) : ∃ m, n = 2 ^ tz n * (2 * m + 1) := by
 obtain ⟨m', h1, h2⟩ := Lib.ctzFrom_spec n n (by omega) Nat.lt_two_pow_self
 exact ⟨m', h1⟩
theorem Jkg (x k idx : Nat) (w : World) (aD : ((x : Int) == 0) = false)
  (key : IntKind.u64.wrap (bits BinOp.and IntKind.u64 (x : Int) (IntKind.u64.wrap (-(x : Int))) * 285870213051353865) / 288230376151711744 = (idx : Int))
  (hi : idx < 64) (hk : k < 64) (e8 : w.cell? ⟨2, idx, none⟩ = some (.int .u8 k)) :
  Calls Tryz.prog 180 #[.int .u64 (x : Int)] w fun e w' => e = .returned (.int .i64 (k : Int)) /\ w = w' := by
 go_enter Tryz.func180, Tryz.ntmps180
 go_wp2_with (simp only [key])
 go_ret
 exact ⟨rfl, rfl⟩
theorem tz64 (x : Nat) (hx : x < 18446744073709551616) (e9 : x ≠ 0) (w : World) (hT : TabAt 2 Lib.deBruijn64tab w) :
  Calls Tryz.prog 180 #[.int .u64 (x : Int)] w fun e w' => e = .returned (.int .i64 (tz x : Int)) /\ w = w' := by
 obtain ⟨y9, hk⟩ := Lib.lowest_bit 64 x e9 hx
 obtain ⟨hi, aA⟩ := Lib.deBruijn64_at _ hk
 have e8 := hT _ hi
 rw [aA] at e8
 have e : Lib.ctz 64 x = tz x := by
  obtain ⟨m, hm, _⟩ := Lib.ctzFrom_spec 64 x (by omega) hx
  have e1 : Lib.ctz 64 x = Lib.ctzFrom 64 x := by simp [Lib.ctz, e9]
  rw [e1]
  exact (Jnu hm).symm
 rw [<- e]
 exact Jkg x _ _ w (by simp; omega) (tz64_key x _ hx e9 y9) hi hk e8
theorem Jnv (x : Nat) (hx : x < 18446744073709551616) (e9 : x ≠ 0) : tz x < 64 := by
 obtain ⟨m, hm⟩ := Jc7 x e9
 rcases Nat.lt_or_ge (tz x) 64 with h | h
 ·exact h
 have h1 : 2 ^ 64 <= 2 ^ tz x := Nat.pow_le_pow_right (by omega) h
 have h2 : 2 ^ tz x * 1 <= 2 ^ tz x * (2 * m + 1) := Nat.mul_le_mul_left _ (by omega)
 rw [<- hm] at h2
 omega
theorem Jm5 (x i R n : Nat) (hx : x < 18446744073709551616) (e9 : x ≠ 0) (hn : 18446744073709551616 ^ i * (x + 18446744073709551616 * R) = n) : tz n = 64 * i + tz x := by
 obtain ⟨m, hm⟩ := Jc7 x e9
 have ht := Jnv x hx e9
 generalize tz x = t at *
 refine Jnu (m := m + 2 ^ (63 - t) * R) ?_
 have e : (18446744073709551616 : Nat) = 2 ^ t * (2 * 2 ^ (63 - t)) := by
  rw [Nat.mul_comm 2, <- Nat.pow_succ, <- Nat.pow_add, show t + (63 - t).succ = 64 from by omega]
 have e2 : (18446744073709551616 : Nat) * R = 2 ^ t * (2 * (2 ^ (63 - t) * R)) := by
  rw [e, Nat.mul_assoc, Nat.mul_assoc]
 rw [<- hn, e2, hm, <- Nat.mul_add, show (18446744073709551616 : Nat) = 2 ^ 64 from rfl, <- Nat.pow_mul, <- Nat.mul_assoc, <- Nat.pow_add]
 congr 1
 omega
theorem Jjw (n : Nat) (h : n ≠ 0) : tz n <= Je n := by
 obtain ⟨m, hm⟩ := Jc7 n h
 rcases Nat.lt_or_ge (Je n) (tz n) with h1 | h1
 ·have h2 := Uk n
  have h3 : 2 ^ Je n <= 2 ^ tz n := Nat.pow_le_pow_right (by omega) (by omega)
  have h4 : 2 ^ tz n * 1 <= 2 ^ tz n * (2 * m + 1) := Nat.mul_le_mul_left _ (by omega)
  rw [<- hm] at h4
  omega
 exact h1
theorem Vt (A : Option Addr) (n c B : Nat) (l : List Nat) (w : World) (h : Reads w B 1 A n (l.map Jk)) (hn : n <= 1099511627776) (hd : Dig 18446744073709551616 l) (h0 : dv 18446744073709551616 l ≠ 0) (hT : TabAt 2 Lib.deBruijn64tab w) :
  Calls Tryz.prog 155 #[.slice A n c] w fun e w' => e = .returned (.int .i64 (tz (dv 18446744073709551616 l) : Int)) /\ w = w' := by
 have hl := h.lenf
 have HL := lh hl
 have H0 := lh h0
 have HTZ := lh (fun x hx e9 => tz64 x hx e9 w hT)
 clear hl h0 hT
 obtain ⟨z, hz⟩ : ∃ z, tz (dv 18446744073709551616 l) = z := ⟨_, rfl⟩
 rw [hz]
 have HZ := lh hz
 clear hz
 go_enter Tryz.func155, Tryz.ntmps155
 go_wp2
 go_loop [3] (fun v => ∃ k : Nat, k <= n /\ v = .int .i64 k /\ Hid (18446744073709551616 ^ k * dv 18446744073709551616 (l.drop k) = dv 18446744073709551616 l)) (fun v => n - (intOf v).toNat)
 case atStart => exact ⟨0, Nat.zero_le _, rfl, by show _ = _; simp⟩
 case round =>
  obtain ⟨k, hk, rfl, HK⟩ := hrel
  have aR : k < n := by
   rcases Nat.lt_or_ge k n with h1 | h1
   ·exact h1
   have h2 := HK.out
   rw [Xe (by rw [HL.out]; exact h1), Nat.mul_zero] at h2
   exact absurd h2.symm H0.out
  obtain ⟨ad, x, hA, hb, hx, e8⟩ := h.atf aR
  subst hA
  unfold Jk at e8
  have aB := hd.get hx
  have HX := lh hx
  have k2 : (k : Int) < (n : Int) := by omega
  clear hx
  by_cases e9 : x = 0
  ·subst e9
   go_wp2
   refine ⟨⟨k + 1, by omega, by go_num, ?_⟩, by simp [intOf]; omega⟩
   show _ = _
   have h2 := HK.out
   rw [Qb HX.out, Nat.zero_add, <- Nat.mul_assoc, <- Nat.pow_succ] at h2
   exact h2
  have aD : ((x : Int) == 0) = false := by simp; omega
  have h2 := HK.out
  rw [Qb HX.out] at h2
  have e := Jm5 x k _ _ aB e9 h2
  have aS := Jnv x aB e9
  rw [HZ.out] at e
  have HE := lh e
  have HT2 := lh (HTZ.out x aB e9)
  clear e h2
  obtain ⟨t, ht⟩ : ∃ t, tz x = t := ⟨_, rfl⟩
  rw [ht] at HE HT2 aS
  clear ht HTZ H0 HK HL HZ h
  go_wp2_with fail
  refine HT2.out.mono ?_
  rintro e w1 ⟨rfl, rfl⟩
  go_wp2
  go_ret
  rw [HE.out]
  exact ⟨by simp, rfl⟩
def odd (n : Nat) : Nat := n / 2 ^ tz n
theorem Ke (n : Nat) (h : n ≠ 0) : n = 2 ^ tz n * odd n /\ odd n % 2 = 1 := by
 obtain ⟨m, hm⟩ := Jc7 n h
 have e : odd n = 2 * m + 1 := by
  unfold odd
  conv => lhs; lhs; rw [hm]
  rw [Nat.mul_div_cancel_left _ (Nat.two_pow_pos _)]
 rw [e]
 exact ⟨hm, by omega⟩
theorem Jgz {m k : Nat} (h : m % 2 = 1) : Nat.Coprime (2 ^ k) m := by
 apply Nat.Coprime.pow_left
 unfold Nat.Coprime
 rw [Nat.gcd_rec, h, Nat.gcd_one_left]
theorem Jno {n m : Nat} (hn : n ≠ 0) (hm : m % 2 = 1) : Nat.gcd (odd n) m = Nat.gcd n m := by
 have h := (Ke n hn).1
 conv => rhs; lhs; rw [h]
 exact (Nat.Coprime.gcd_mul_left_cancel (odd n) (Jgz hm)).symm
theorem Jdw (n : Nat) : odd n <= n := Nat.div_le_self _ _
theorem Jfp {v u : Nat} (o8 : u < v) (hv : v % 2 = 1) (hu : u % 2 = 1) : Nat.gcd (odd (v - u)) u = Nat.gcd v u /\ odd (v - u) % 2 = 1 /\ odd (v - u) + u < v + u := by
 have h0 : v - u ≠ 0 := by omega
 refine ⟨?_, (Ke _ h0).2, ?_⟩
 ·rw [Jno h0 hu, Nat.gcd_sub_self_left (by omega)]
 have h1 := Ke (v - u) h0
 have h2 := Jdw (v - u)
 omega
theorem Jk1 (a b : Nat) (ha : a ≠ 0) (hb : b ≠ 0) : Nat.gcd a b = Nat.gcd (odd a) (odd b) * 2 ^ min (tz a) (tz b) := by
 obtain ⟨aT, aU⟩ := Ke a ha
 obtain ⟨s9, aV⟩ := Ke b hb
 generalize odd a = x at *
 generalize odd b = y at *
 generalize tz a = s at *
 generalize tz b = t at *
 subst aT s9
 rcases Nat.le_total s t with h | h
 ·obtain ⟨k, rfl⟩ : ∃ k, t = s + k := ⟨t - s, by omega⟩
  rw [Nat.min_eq_left h, Nat.pow_add, Nat.mul_assoc, Nat.gcd_mul_left, Nat.mul_comm]
  congr 1
  rw [Nat.gcd_comm, Nat.Coprime.gcd_mul_left_cancel _ (Jgz aU), Nat.gcd_comm]
 obtain ⟨k, rfl⟩ : ∃ k, s = t + k := ⟨s - t, by omega⟩
 rw [Nat.min_eq_right h, Nat.pow_add, Nat.mul_assoc, Nat.gcd_mul_left, Nat.mul_comm]
 congr 1
 rw [Nat.Coprime.gcd_mul_left_cancel _ (Jgz aV)]
theorem Jep (A A' : Option Addr) (n c n' c' B : Nat) (a b : Nat) (w : World) (h : Reads w B 1 A n ((Jf a).map Jk)) (h' : Reads w B 1 A' n' ((Jf b).map Jk)) (hn : n <= 1099511627776) (hn' : n' <= 1099511627776) :
  Calls Tryz.prog 157 #[.slice A n c, .slice A' n' c'] w (Ret (.int .i64 (Qx a b)) w) := by
 have hl := h.lenf
 have u4 := h'.lenf
 by_cases aW : n = n'
 ·subst aW
  have HL := lh (And.intro hl u4)
  clear hl u4
  go_enter Tryz.func157, Tryz.ntmps157
  go_wp2
  go_loopw [5] (fun i wr => ∃ k : Nat, k <= n /\ i = .int .i64 ((k : Int) - 1) /\ Below w.heap.size w wr /\ (∀ p, wr.cell? p = w.cell? p) /\ Hid ((Jf a).drop k = (Jf b).drop k)) (fun i _ => (intOf i + 1).toNat)
  case atStart =>
   refine ⟨n, Nat.le_refl _, rfl, Below.refl _ _, fun _ => rfl, ?_⟩
   show _ = _
   rw [List.drop_of_length_le (by rw [HL.out.1]; omega), List.drop_of_length_le (by rw [HL.out.2]; omega)]
  case round =>
   obtain ⟨k, hk, rfl, hB, aC, HK⟩ := hrel
   by_cases h0 : k = 0
   ·subst h0
    have e : Qx a b = 0 := by
     have h1 := HK.out
     rw [List.drop_zero, List.drop_zero] at h1
     have h2 := congrArg (dv 18446744073709551616) h1
     rw [Jm, Jm] at h2
     rw [h2, Jb4]
    have HE := lh e
    clear e
    go_wp2
    go_ret
    rw [HE.out]
    exact ⟨rfl, hB⟩
   obtain ⟨j, rfl⟩ : ∃ j, k = j + 1 := ⟨k - 1, by omega⟩
   obtain ⟨ad, x, hA, hb, hx, e8⟩ := h.atf (show j < n by omega)
   obtain ⟨ad', y, aX, bF, hy, j6⟩ := h'.atf (show j < n by omega)
   subst hA aX
   unfold Jk at e8 j6
   rw [<- aC] at e8 j6
   have k1 : (((j + 1 : Nat) : Int) - 1) = (j : Int) := by omega
   rw [k1]
   have k2 : (j : Int) < (n : Int) := by omega
   have HX := lh (And.intro hx hy)
   have HC := lh aC
   clear hx hy k1 aC
   by_cases aY : x = y
   ·subst aY
    go_wp2_with fail
    go_region
    go_wp2
    refine ⟨⟨j, by omega, by go_num, ?_, ?_, ?_⟩, by simp [intOf] <;> omega⟩
    ·exact Jy hB 1
    ·exact HC.out
    show _ = _
    have h1 := HX.out.1
    have h2 := HX.out.2
    obtain ⟨i1, g1⟩ := List.getElem?_eq_some_iff.1 h1
    obtain ⟨i2, g2⟩ := List.getElem?_eq_some_iff.1 h2
    rw [List.drop_eq_getElem_cons i1, List.drop_eq_getElem_cons i2, g1, g2, HK.out]
   have aZ : ((x : Int) != (y : Int)) = true := by simp; omega
   by_cases o8 : x < y
   ·have e : Qx a b = -1 := by
     have := Jcq (Jp a) (Jp b) (by omega) HX.out.1 HX.out.2 HK.out o8
     rw [Jm, Jm] at this
     exact Zu this
    have HE := lh e
    have h2 : (x : Int) < (y : Int) := by omega
    clear e
    go_wp2_with fail
    go_region
    go_wp2_with fail
    go_region
    go_wp2
    go_ret
    rw [HE.out]
    exact ⟨rfl, Jy hB 2⟩
   have e : Qx a b = 1 := by
    have := Jcq (Jp b) (Jp a) (by omega) HX.out.2 HX.out.1 HK.out.symm (by omega)
    rw [Jm, Jm] at this
    exact Uj this
   have HE := lh e
   have h2 : ¬ (x : Int) < (y : Int) := by omega
   clear e
   go_wp2_with fail
   go_region
   go_wp2_with fail
   go_region
   go_wp2
   go_ret
   rw [HE.out]
   exact ⟨rfl, Jy hB 2⟩
 by_cases o8 : n < n'
 ·have e : Qx a b = -1 := Zu (Zc (by omega))
  rw [e]
  clear e hl u4
  have h1 : ((n : Int) != (n' : Int)) = true := by simp; omega
  have h2 : (n : Int) < (n' : Int) := by omega
  go_enter Tryz.func157, Tryz.ntmps157
  go_wp2
  go_ret
  exact ⟨rfl, Below.refl _ _⟩
 have e : Qx a b = 1 := Uj (Zc (by omega))
 rw [e]
 clear e hl u4
 have h1 : ((n : Int) != (n' : Int)) = true := by simp; omega
 have h2 : ¬ (n : Int) < (n' : Int) := by omega
 go_enter Tryz.func157, Tryz.ntmps157
 go_wp2
 go_ret
 exact ⟨rfl, Below.refl _ _⟩
