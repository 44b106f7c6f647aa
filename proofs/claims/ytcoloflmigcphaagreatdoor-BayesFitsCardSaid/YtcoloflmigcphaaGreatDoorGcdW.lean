import Derived.RegionTactic
import Derived.BigRegion
import Derived.Shelf.Spec.TrailingZeros
import Derived.Test.YtcoloflmigcphaaGreatDoorNatC
namespace Go.Proofs.YtcoloflmigcphaaGreatDoor
set_option maxRecDepth 100000
set_option maxHeartbeats 1000000
open Go.RowKit
set_option linter.all false
theorem Jce (A : Option Addr) (n c B : Nat) (l : List Nat) (w : World) (h : Reads w B 1 A n (l.map Jh)) (hn : n <= 9223372036854775807) (hc : n <= c) :
  Calls Tryz.prog 167 #[.slice A n c] w fun e w' => e = .returned (.slice A (trimL l).length c) /\ w = w' := by
 have hl := h.lenf
 have HL := lh hl
 clear hl
 go_enter Tryz.func167, Tryz.ntmps167
 go_wp2
 go_loop [0] (fun v => ∃ k : Nat, k <= n /\ v = .slice A k c /\ Hid (trimL (l.take k) = trimL l)) (fun v => lenOf v)
 case atStart => exact ⟨n, Nat.le_refl _, rfl, by show _ = _; rw [List.take_of_length_le (by rw [HL.out]; omega)]⟩
 case round =>
  obtain ⟨k, hk, rfl, HK⟩ := hrel
  by_cases h0 : k = 0
  ·subst h0
   go_wp2
   go_ret
   have := HK.out
   rw [<- this]
   exact ⟨rfl, rfl⟩
  obtain ⟨j, rfl⟩ : ∃ j, k = j + 1 := ⟨k - 1, by omega⟩
  obtain ⟨ad, x, hA, hb, hx, j0⟩ := h.atf (show j < n by omega)
  subst hA
  unfold Jh at j0
  have k1 : (((j + 1 : Nat) : Int) - 1) = (j : Int) := by omega
  have k2 : (j : Int) < ((j + 1 : Nat) : Int) := by omega
  have k3 : (0 : Int) < ((j + 1 : Nat) : Int) := by omega
  have k4 : (j : Int) <= (c : Int) := by omega
  have HX := lh hx
  clear hx
  by_cases j6 : x = 0
  ·subst j6
   go_wp2
   refine ⟨⟨j, by omega, rfl, ?_⟩, by simp [lenOf]⟩
   show _ = _
   rw [<- Ur HX.out]
   exact HK.out
  have aJ : ((x : Int) == 0) = false := by simp; omega
  go_wp2
  go_ret
  refine ⟨?_, rfl⟩
  have h1 := HK.out
  rw [Uq HX.out j6] at h1
  rw [<- h1, List.length_take, HL.out, Nat.min_eq_left hk]
  rfl
def Win (w : World) (g : Nat) (v : Value) (l : List Nat) : Prop :=
 ∃ c pre post, v = .slice (some ⟨g, pre.length, none⟩) l.length c /\ l.length <= c /\ c <= 1099511627776 /\ Row w g 35 Jh (pre ++ l ++ post)
theorem Uz (n i : Nat) : Xh (Qu n i) = n % 256 ^ i := by
 induction i with
 | zero => simp [Qu, Xh, Nat.mod_one]
 | succ i ih =>
  rw [Qu, Jc8, Zp, ih]
  have : (Zr n i).toNat = n / 256 ^ i % 256 := by
   unfold Zr
   simp
  rw [this, Nat.pow_succ, Nat.mod_mul, Nat.mul_comm, Nat.add_comm]
theorem Jju (n : Nat) : n < 256 ^ Xs n := by
 refine Nat.lt_of_lt_of_le (Kj n) ?_
 rw [show (256 : Nat) = 2 ^ 8 from rfl, <- Nat.pow_mul]
 refine Nat.pow_le_pow_right (by omega) ?_
 unfold Xs
 omega
theorem Jc6 (n : Nat) : Xh (Jgt n) = n := by
 unfold Jgt
 rw [Uz, Nat.mod_eq_of_lt (Jju n)]
theorem Jjf (n : Nat) : (Xs n + 7) / 8 = (words n).length := by
 by_cases h0 : n = 0
 ·subst h0
  rw [Qf]
  have : Je 0 = 0 := by rw [<- Nat.le_zero]; exact Yb 0 0 (by omega)
  unfold Xs
  rw [this]
  rfl
 have h1 := Ka n h0
 have h2 := (Qv (top n)).2 (Xj n h0).2.1
 have h3 := Ze (top n) (by have := Yq n; exact this _ (by rw [(Xj n h0).1]; simp))
 have h4 : 1 <= (words n).length := by rw [Qd n h0]; simp
 unfold Xs
 omega
theorem Jer (l : List Nat) (n : Nat) (h : Dig 18446744073709551616 l) (he : dv 18446744073709551616 l = n) (hl : l.length = (words n).length) : l = words n := by
 have h1 := Jaf l h
 rw [he] at h1
 rw [h1] at hl ⊢
 rw [Zc, <- hl, List.take_length]
theorem Jbl (a : Nat) (w : World) (ha : Je a <= 1099511627776) :
  Calls Tryz.prog 145 #[Jg a] w fun e w' => ∃ g v, e = .returned v /\ Win w' g v (words a) /\ w.heap.size <= g /\ Below w.heap.size w w' := by
 have aB := fun w => Jd9 a w (by omega)
 have aP : Xs a <= 137438953472 := by unfold Xs; omega
 have bS := Jjf a
 have aK := Jc6 a
 have o0 := Jgs a
 unfold Jg at aB ⊢
 have HBY := lh aB
 have HBV := lh aK
 clear aB aK
 go_enter Tryz.func145, Tryz.ntmps145
 go_wp2_with fail
 have aC : Below w.heap.size w (w.alloc (.cells #[.int .u64 (lo a : Int), .string (mo a)] 37)) := (Below.refl _ _).alloc zd _
 generalize w.alloc (.cells #[.int .u64 (lo a : Int), .string (mo a)] 37) = W at *
 refine (HBY.out W).mono ?_
 rintro e w1 ⟨v1, rfl, bT, bU, aQ⟩
 obtain ⟨A, c1, aD, aL, bG⟩ := bT.form
 rw [aD] at bT
 rw [aD]
 have bV := Own.reads bT
 rw [o0] at bV aL
 rw [o0]
 clear aD aQ bT
 have aM : Below w.heap.size w w1 := aC.trans (bU.mono aC.size)
 clear aC bU
 obtain ⟨n, hn⟩ : ∃ n, Xs a = n := ⟨_, rfl⟩
 rw [hn] at bV aL bS aP o0
 rw [hn]
 obtain ⟨L, hL⟩ : ∃ L, (n + 7) / 8 = L := ⟨_, rfl⟩
 rw [hL] at bS
 have aR : ((n : Int) + 7) / 8 = (L : Int) := by omega
 have aS := Qh (P := Tryz.prog) Jh 0 157 35 8 Tryz.underlying157 Tryz.infoU64 rfl .i64 .i64 L (by omega) (by omega)
 have HL := lh (And.intro o0 hL)
 have HWL := lh bS
 clear o0
 have bH : L <= 1099511627776 := by omega
 clear hL bS hn
 generalize Jgt a = bs at *
 go_wp2_with fail
 clear aS aR
 have j9 := Row.rep w1 35 Jh 0 L
 have j7 := (Below.refl w1.heap.size w1).alloc zd (.cells (Array.replicate L (Jh 0)) 35)
 obtain ⟨g, hg⟩ : ∃ g, w1.heap.size = g := ⟨_, rfl⟩
 rw [hg] at j9 j7 bV ⊢
 have aN : w.heap.size <= g := by rw [<- hg]; exact aM.size
 have HG := lh hg
 clear hg
 go_loopw [5, 15] (fun x i wr => ∃ k : Nat, k <= n /\ i = .int .i64 k /\ Jm5 w1 g L (Xh (bs.drop (n - k))) wr) (fun _ i _ => n - (intOf i).toNat)
 case atStart =>
  refine ⟨0, Nat.zero_le _, rfl, _, j9, by simp, Dig.rep (by omega) _, ?_, j7⟩
  rw [Yx, Nat.sub_zero, List.drop_of_length_le (by rw [HL.out.1]; omega)]
  rfl
 case round =>
  obtain ⟨i, hi, rfl, l, hr, o9, bN, aO, bO⟩ := hrel
  have HLEN := lh o9
  have HDV := lh aO
  clear o9 aO j9 j7
  by_cases bQ : i < n
  ·have h4 : Bytes wr g A n bs := Reads.below bV bO
   obtain ⟨ad, x, hA, hb, hx, bI⟩ := h4.at_ (show n - 1 - i < n by omega)
   subst hA
   obtain ⟨j, hj⟩ : ∃ j, i / 8 = j := ⟨_, rfl⟩
   obtain ⟨r, bJ⟩ : ∃ r, i % 8 = r := ⟨_, rfl⟩
   have aT : j < L := by have := HL.out.2; omega
   obtain ⟨y, hy⟩ : ∃ y, l[j]? = some y := ⟨_, List.getElem?_eq_getElem (by rw [HLEN.out]; exact aT)⟩
   have p9 : y < 256 ^ r := by
    have h5 := Jek (β := 18446744073709551616) hy
    have h6 := Jhg (bs.drop (n - i))
    rw [HDV.out] at h5
    have h8 : (256 : Nat) ^ i = 18446744073709551616 ^ j * 256 ^ r := by rw [show i = 8 * j + r from by omega, Nat.pow_add, Nat.pow_mul]
    rw [List.length_drop, HL.out.1, show n - (n - i) = i from by omega, h8] at h6
    have h7 : y * 18446744073709551616 ^ j < 256 ^ r * 18446744073709551616 ^ j := by
     rw [Nat.mul_comm (256 ^ r)]
     exact Nat.lt_of_le_of_lt h5 h6
    exact Nat.lt_of_mul_lt_mul_right h7
   have aU := Ji2 y x.toNat r p9 (by have := x.toNat_lt; omega) (by omega)
   have bR : dv 18446744073709551616 (l.set j (y + x.toNat * 256 ^ r)) = Xh (bs.drop (n - (i + 1))) := by
    have h5 := Yl (β := 18446744073709551616) (y + x.toNat * 256 ^ r) hy
    have h6 := Jc7 bs i x (by rw [HL.out.1]; exact bQ) (by rw [HL.out.1]; exact hx)
    rw [HL.out.1] at h6
    rw [HDV.out, Nat.add_mul] at h5
    have h7 : x.toNat * 256 ^ i = x.toNat * 256 ^ r * 18446744073709551616 ^ j := by
     rw [show i = 8 * j + r from by omega, Nat.pow_add, Nat.pow_mul, Nat.mul_assoc, Nat.mul_comm (256 ^ r)]
    rw [h6, h7]
    omega
   obtain ⟨aV, aE⟩ := aU
   generalize y + x.toNat * 256 ^ r = z at *
   have aW := hr.cell (k := j) (x := y) hy
   have bK := hr.frozen j
   unfold Jh at aW
   have HX := lh (And.intro bR (And.intro hx hy))
   clear bR hx hy p9
   have c1 : ((i : Int) / 8) = (j : Int) := by omega
   have c2 : ((i : Int) % 8) = (r : Int) := by omega
   have c3 : ((n : Int) - 1 - (i : Int)).toNat = n - 1 - i := by omega
   have c4 : (0 : Int) <= (n : Int) - 1 - (i : Int) := by omega
   have c5 : (n : Int) - 1 - (i : Int) < (n : Int) := by omega
   have c6 : (j : Int) < (L : Int) := by omega
   have c7 : (8 : Int) * (r : Int) <= 56 := by omega
   have c8 := Vr x
   go_wp2_with fail
   go_region
   go_wp2
   refine ⟨⟨i + 1, by omega, by go_num, l.set j z, ?_, by rw [List.length_set]; exact HLEN.out, bN.set_ j aE, HX.out.1, ?_⟩, by simp [intOf]; omega⟩
   ·exact (hr.drewN 1).set_ j z
   exact (Jw bO 1).setCell zd _
  obtain rfl : i = n := by omega
  have bP := HDV.out
  rw [Nat.sub_self, List.drop_zero, HBV.out] at bP
  have y9 := Jer l a bN bP (by rw [HLEN.out]; exact HWL.out)
  have s9 : Below w.heap.size w wr := aM.trans (bO.mono aN)
  have HF : Hid (Win wr g (.slice (some ⟨g, 0, none⟩) L L) (words a) /\ w.heap.size <= g /\ Below w.heap.size w wr) := by
   refine ⟨⟨L, [], [], ?_, ?_, by omega, ?_⟩, aN, s9⟩
   ·rw [<- y9, HLEN.out]; rfl
   ·rw [<- y9, HLEN.out]; exact Nat.le_refl _
   rw [<- y9]; simpa using hr
  clear hr bN s9 y9 bP
  go_wp2
  go_ret
  exact ⟨g, _, rfl, HF.out⟩
def tz (n : Nat) : Nat := Lib.ctzFrom n n
theorem Jmx {n t m : Nat} (h : n = 2 ^ t * (2 * m + 1)) : tz n = t := by
 have hp : 0 < 2 ^ t := Nat.two_pow_pos t
 have h0 : 0 < n := by rw [h]; exact Nat.mul_pos hp (by omega)
 obtain ⟨m', h1, h2⟩ := Lib.ctzFrom_spec n n h0 Nat.lt_two_pow_self
 unfold tz
 generalize Lib.ctzFrom n n = s at *
 rw [h] at h1
 rcases Nat.lt_trichotomy s t with hl | hl | hl
 ·obtain ⟨k, rfl⟩ : ∃ k, t = s + (k + 1) := ⟨t - s - 1, by omega⟩
  rw [Nat.pow_add, Nat.mul_assoc] at h1
  have h3 := Nat.eq_of_mul_eq_mul_left (Nat.two_pow_pos s) h1
  rw [Nat.pow_succ, Nat.mul_comm (2 ^ k), Nat.mul_assoc] at h3
  omega
 ·exact hl
 obtain ⟨k, rfl⟩ : ∃ k, s = t + (k + 1) := ⟨s - t - 1, by omega⟩
 rw [Nat.pow_add, Nat.mul_assoc] at h1
 have h3 := Nat.eq_of_mul_eq_mul_left (Nat.two_pow_pos t) h1
 rw [Nat.pow_succ, Nat.mul_comm (2 ^ k), Nat.mul_assoc] at h3
 omega
theorem Jb7 (n : Nat) (h : n ≠ 0) : ∃ m, n = 2 ^ tz n * (2 * m + 1) := by
 obtain ⟨m', h1, h2⟩ := Lib.ctzFrom_spec n n (by omega) Nat.lt_two_pow_self
 exact ⟨m', h1⟩
theorem Jjh (x k idx : Nat) (w : World) (aJ : ((x : Int) == 0) = false)
  (key : IntKind.u64.wrap (bits BinOp.and IntKind.u64 (x : Int) (IntKind.u64.wrap (-(x : Int))) * 285870213051353865) / 288230376151711744 = (idx : Int))
  (hi : idx < 64) (hk : k < 64) (j0 : w.cell? ⟨2, idx, none⟩ = some (.int .u8 k)) :
  Calls Tryz.prog 166 #[.int .u64 (x : Int)] w fun e w' => e = .returned (.int .i64 (k : Int)) /\ w = w' := by
 go_enter Tryz.func166, Tryz.ntmps166
 go_wp2_with (simp only [key])
 go_ret
 exact ⟨rfl, rfl⟩
theorem tz64 (x : Nat) (hx : x < 18446744073709551616) (j6 : x ≠ 0) (w : World) (hT : TabAt 2 Lib.deBruijn64tab w) :
  Calls Tryz.prog 166 #[.int .u64 (x : Int)] w fun e w' => e = .returned (.int .i64 (tz x : Int)) /\ w = w' := by
 obtain ⟨aF, hk⟩ := Lib.lowest_bit 64 x j6 hx
 obtain ⟨hi, aG⟩ := Lib.deBruijn64_at _ hk
 have j0 := hT _ hi
 rw [aG] at j0
 have e : Lib.ctz 64 x = tz x := by
  obtain ⟨m, hm, _⟩ := Lib.ctzFrom_spec 64 x (by omega) hx
  have e1 : Lib.ctz 64 x = Lib.ctzFrom 64 x := by simp [Lib.ctz, j6]
  rw [e1]
  exact (Jmx hm).symm
 rw [<- e]
 exact Jjh x _ _ w (by simp; omega) (tz64_key x _ hx j6 aF) hi hk j0
theorem Jmy (x : Nat) (hx : x < 18446744073709551616) (j6 : x ≠ 0) : tz x < 64 := by
 obtain ⟨m, hm⟩ := Jb7 x j6
 rcases Nat.lt_or_ge (tz x) 64 with h | h
 ·exact h
 have h1 : 2 ^ 64 <= 2 ^ tz x := Nat.pow_le_pow_right (by omega) h
 have h2 : 2 ^ tz x * 1 <= 2 ^ tz x * (2 * m + 1) := Nat.mul_le_mul_left _ (by omega)
 rw [<- hm] at h2
 omega
theorem Jl5 (x i R n : Nat) (hx : x < 18446744073709551616) (j6 : x ≠ 0) (hn : 18446744073709551616 ^ i * (x + 18446744073709551616 * R) = n) : tz n = 64 * i + tz x := by
 obtain ⟨m, hm⟩ := Jb7 x j6
 have ht := Jmy x hx j6
 generalize tz x = t at *
 refine Jmx (m := m + 2 ^ (63 - t) * R) ?_
 have e : (18446744073709551616 : Nat) = 2 ^ t * (2 * 2 ^ (63 - t)) := by
  rw [Nat.mul_comm 2, <- Nat.pow_succ, <- Nat.pow_add, show t + (63 - t).succ = 64 from by omega]
 have e2 : (18446744073709551616 : Nat) * R = 2 ^ t * (2 * (2 ^ (63 - t) * R)) := by
  rw [e, Nat.mul_assoc, Nat.mul_assoc]
 rw [<- hn, e2, hm, <- Nat.mul_add, show (18446744073709551616 : Nat) = 2 ^ 64 from rfl, <- Nat.pow_mul, <- Nat.mul_assoc, <- Nat.pow_add]
 congr 1
 omega
theorem Jiz (n : Nat) (h : n ≠ 0) : tz n <= Je n := by
 obtain ⟨m, hm⟩ := Jb7 n h
 rcases Nat.lt_or_ge (Je n) (tz n) with h1 | h1
 ·have h2 := Kj n
  have h3 : 2 ^ Je n <= 2 ^ tz n := Nat.pow_le_pow_right (by omega) (by omega)
  have h4 : 2 ^ tz n * 1 <= 2 ^ tz n * (2 * m + 1) := Nat.mul_le_mul_left _ (by omega)
  rw [<- hm] at h4
  omega
 exact h1
theorem Uo (A : Option Addr) (n c B : Nat) (l : List Nat) (w : World) (h : Reads w B 1 A n (l.map Jh)) (hn : n <= 1099511627776) (hd : Dig 18446744073709551616 l) (h0 : dv 18446744073709551616 l ≠ 0) (hT : TabAt 2 Lib.deBruijn64tab w) :
  Calls Tryz.prog 146 #[.slice A n c] w fun e w' => e = .returned (.int .i64 (tz (dv 18446744073709551616 l) : Int)) /\ w = w' := by
 have hl := h.lenf
 have HL := lh hl
 have H0 := lh h0
 have HTZ := lh (fun x hx j6 => tz64 x hx j6 w hT)
 clear hl h0 hT
 obtain ⟨z, hz⟩ : ∃ z, tz (dv 18446744073709551616 l) = z := ⟨_, rfl⟩
 rw [hz]
 have HZ := lh hz
 clear hz
 go_enter Tryz.func146, Tryz.ntmps146
 go_wp2
 go_loop [3] (fun v => ∃ k : Nat, k <= n /\ v = .int .i64 k /\ Hid (18446744073709551616 ^ k * dv 18446744073709551616 (l.drop k) = dv 18446744073709551616 l)) (fun v => n - (intOf v).toNat)
 case atStart => exact ⟨0, Nat.zero_le _, rfl, by show _ = _; simp⟩
 case round =>
  obtain ⟨k, hk, rfl, HK⟩ := hrel
  have aX : k < n := by
   rcases Nat.lt_or_ge k n with h1 | h1
   ·exact h1
   have h2 := HK.out
   rw [Qx (by rw [HL.out]; exact h1), Nat.mul_zero] at h2
   exact absurd h2.symm H0.out
  obtain ⟨ad, x, hA, hb, hx, j0⟩ := h.atf aX
  subst hA
  unfold Jh at j0
  have aH := hd.get hx
  have HX := lh hx
  have k2 : (k : Int) < (n : Int) := by omega
  clear hx
  by_cases j6 : x = 0
  ·subst j6
   go_wp2
   refine ⟨⟨k + 1, by omega, by go_num, ?_⟩, by simp [intOf]; omega⟩
   show _ = _
   have h2 := HK.out
   rw [Qa HX.out, Nat.zero_add, <- Nat.mul_assoc, <- Nat.pow_succ] at h2
   exact h2
  have aJ : ((x : Int) == 0) = false := by simp; omega
  have h2 := HK.out
  rw [Qa HX.out] at h2
  have e := Jl5 x k _ _ aH j6 h2
  have aY := Jmy x aH j6
  rw [HZ.out] at e
  have HE := lh e
  have HT2 := lh (HTZ.out x aH j6)
  clear e h2
  obtain ⟨t, ht⟩ : ∃ t, tz x = t := ⟨_, rfl⟩
  rw [ht] at HE HT2 aY
  clear ht HTZ H0 HK HL HZ h
  go_wp2_with fail
  refine HT2.out.mono ?_
  rintro e w1 ⟨rfl, rfl⟩
  go_wp2
  go_ret
  rw [HE.out]
  exact ⟨by simp, rfl⟩
def odd (n : Nat) : Nat := n / 2 ^ tz n
theorem Yh (n : Nat) (h : n ≠ 0) : n = 2 ^ tz n * odd n /\ odd n % 2 = 1 := by
 obtain ⟨m, hm⟩ := Jb7 n h
 have e : odd n = 2 * m + 1 := by
  unfold odd
  conv => lhs; lhs; rw [hm]
  rw [Nat.mul_div_cancel_left _ (Nat.two_pow_pos _)]
 rw [e]
 exact ⟨hm, by omega⟩
theorem Jfn {m k : Nat} (h : m % 2 = 1) : Nat.Coprime (2 ^ k) m := by
 apply Nat.Coprime.pow_left
 unfold Nat.Coprime
 rw [Nat.gcd_rec, h, Nat.gcd_one_left]
theorem Jmr {n m : Nat} (hn : n ≠ 0) (hm : m % 2 = 1) : Nat.gcd (odd n) m = Nat.gcd n m := by
 have h := (Yh n hn).1
 conv => rhs; lhs; rw [h]
 exact (Nat.Coprime.gcd_mul_left_cancel (odd n) (Jfn hm)).symm
theorem Jcr (n : Nat) : odd n <= n := Nat.div_le_self _ _
theorem Jee {v u : Nat} (bQ : u < v) (hv : v % 2 = 1) (hu : u % 2 = 1) : Nat.gcd (odd (v - u)) u = Nat.gcd v u /\ odd (v - u) % 2 = 1 /\ odd (v - u) + u < v + u := by
 have h0 : v - u ≠ 0 := by omega
 refine ⟨?_, (Yh _ h0).2, ?_⟩
 ·rw [Jmr h0 hu, Nat.gcd_sub_self_left (by omega)]
 have h1 := Yh (v - u) h0
 have h2 := Jcr (v - u)
 omega
theorem Jj8 (a b : Nat) (ha : a ≠ 0) (hb : b ≠ 0) : Nat.gcd a b = Nat.gcd (odd a) (odd b) * 2 ^ min (tz a) (tz b) := by
 obtain ⟨aZ, bA⟩ := Yh a ha
 obtain ⟨bU, bB⟩ := Yh b hb
 generalize odd a = x at *
 generalize odd b = y at *
 generalize tz a = s at *
 generalize tz b = t at *
 subst aZ bU
 rcases Nat.le_total s t with h | h
 ·obtain ⟨k, rfl⟩ : ∃ k, t = s + k := ⟨t - s, by omega⟩
  rw [Nat.min_eq_left h, Nat.pow_add, Nat.mul_assoc, Nat.gcd_mul_left, Nat.mul_comm]
  congr 1
  rw [Nat.gcd_comm, Nat.Coprime.gcd_mul_left_cancel _ (Jfn bA), Nat.gcd_comm]
 obtain ⟨k, rfl⟩ : ∃ k, s = t + k := ⟨s - t, by omega⟩
 rw [Nat.min_eq_right h, Nat.pow_add, Nat.mul_assoc, Nat.gcd_mul_left, Nat.mul_comm]
 congr 1
 rw [Nat.Coprime.gcd_mul_left_cancel _ (Jfn bB)]
theorem Jdd (A A' : Option Addr) (n c n' c' B : Nat) (a b : Nat) (w : World) (h : Reads w B 1 A n ((words a).map Jh)) (h' : Reads w B 1 A' n' ((words b).map Jh)) (hn : n <= 1099511627776) (bL : n' <= 1099511627776) :
  Calls Tryz.prog 148 #[.slice A n c, .slice A' n' c'] w (Ret (.int .i64 (Qz a b)) w) := by
 have hl := h.lenf
 have aA := h'.lenf
 by_cases bC : n = n'
 ·subst bC
  have HL := lh (And.intro hl aA)
  clear hl aA
  go_enter Tryz.func148, Tryz.ntmps148
  go_wp2
  go_loopw [5] (fun i wr => ∃ k : Nat, k <= n /\ i = .int .i64 ((k : Int) - 1) /\ Below w.heap.size w wr /\ (∀ p, wr.cell? p = w.cell? p) /\ Hid ((words a).drop k = (words b).drop k)) (fun i _ => (intOf i + 1).toNat)
  case atStart =>
   refine ⟨n, Nat.le_refl _, rfl, Below.refl _ _, fun _ => rfl, ?_⟩
   show _ = _
   rw [List.drop_of_length_le (by rw [HL.out.1]; omega), List.drop_of_length_le (by rw [HL.out.2]; omega)]
  case round =>
   obtain ⟨k, hk, rfl, hB, aI, HK⟩ := hrel
   by_cases h0 : k = 0
   ·subst h0
    have e : Qz a b = 0 := by
     have h1 := HK.out
     rw [List.drop_zero, List.drop_zero] at h1
     have h2 := congrArg (dv 18446744073709551616) h1
     rw [Ji, Ji] at h2
     rw [h2, Jar]
    have HE := lh e
    clear e
    go_wp2
    go_ret
    rw [HE.out]
    exact ⟨rfl, hB⟩
   obtain ⟨j, rfl⟩ : ∃ j, k = j + 1 := ⟨k - 1, by omega⟩
   obtain ⟨ad, x, hA, hb, hx, j0⟩ := h.atf (show j < n by omega)
   obtain ⟨ad', y, bD, bM, hy, j8⟩ := h'.atf (show j < n by omega)
   subst hA bD
   unfold Jh at j0 j8
   rw [<- aI] at j0 j8
   have k1 : (((j + 1 : Nat) : Int) - 1) = (j : Int) := by omega
   rw [k1]
   have k2 : (j : Int) < (n : Int) := by omega
   have HX := lh (And.intro hx hy)
   have HC := lh aI
   clear hx hy k1 aI
   by_cases bE : x = y
   ·subst bE
    go_wp2_with fail
    go_region
    go_wp2
    refine ⟨⟨j, by omega, by go_num, ?_, ?_, ?_⟩, by simp [intOf] <;> omega⟩
    ·exact Jw hB 1
    ·exact HC.out
    show _ = _
    have h1 := HX.out.1
    have h2 := HX.out.2
    obtain ⟨i1, g1⟩ := List.getElem?_eq_some_iff.1 h1
    obtain ⟨i2, g2⟩ := List.getElem?_eq_some_iff.1 h2
    rw [List.drop_eq_getElem_cons i1, List.drop_eq_getElem_cons i2, g1, g2, HK.out]
   have bF : ((x : Int) != (y : Int)) = true := by simp; omega
   by_cases bQ : x < y
   ·have e : Qz a b = -1 := by
     have := Jbj (Jl a) (Jl b) (by omega) HX.out.1 HX.out.2 HK.out bQ
     rw [Ji, Ji] at this
     exact Zq this
    have HE := lh e
    have h2 : (x : Int) < (y : Int) := by omega
    clear e
    go_wp2_with fail
    go_region
    go_wp2_with fail
    go_region
    go_wp2
    go_ret
    rw [HE.out]
    exact ⟨rfl, Jw hB 2⟩
   have e : Qz a b = 1 := by
    have := Jbj (Jl b) (Jl a) (by omega) HX.out.2 HX.out.1 HK.out.symm (by omega)
    rw [Ji, Ji] at this
    exact Kh this
   have HE := lh e
   have h2 : ¬ (x : Int) < (y : Int) := by omega
   clear e
   go_wp2_with fail
   go_region
   go_wp2_with fail
   go_region
   go_wp2
   go_ret
   rw [HE.out]
   exact ⟨rfl, Jw hB 2⟩
 by_cases bQ : n < n'
 ·have e : Qz a b = -1 := Zq (Xp (by omega))
  rw [e]
  clear e hl aA
  have h1 : ((n : Int) != (n' : Int)) = true := by simp; omega
  have h2 : (n : Int) < (n' : Int) := by omega
  go_enter Tryz.func148, Tryz.ntmps148
  go_wp2
  go_ret
  exact ⟨rfl, Below.refl _ _⟩
 have e : Qz a b = 1 := Kh (Xp (by omega))
 rw [e]
 clear e hl aA
 have h1 : ((n : Int) != (n' : Int)) = true := by simp; omega
 have h2 : ¬ (n : Int) < (n' : Int) := by omega
 go_enter Tryz.func148, Tryz.ntmps148
 go_wp2
 go_ret
 exact ⟨rfl, Below.refl _ _⟩
