import Derived.Test.YtacbcaebaomglaaGreatDoorNatB
import Derived.Deep.QuietTactic
import Derived.BigQuiet
namespace Go.Proofs.YtacbcaebaomglaaGreatDoor
set_option maxRecDepth 100000
set_option maxHeartbeats 1000000
open Go.RowKit
set_option linter.all false
theorem Jc (z : Int) (h0 : 0 <= z) (h1 : z < 18446744073709551616) : IntKind.u64.wrap z = z := by
 simp only [IntKind.wrap, IntKind.bits, IntKind.signed]
 simp
 omega
def Jlv (w : World) (N len : Nat) (e : Ending) (w' : World) : Prop :=
 ∃ (g : Nat) (l : List Nat), e = .returned (.slice (some ⟨g, 0, none⟩) len len) /\ l.length = len /\ Row w' g 59 Jj l /\ Dig 18446744073709551616 l /\ dv 18446744073709551616 l = N /\ Below w.heap.size w w' /\ w.heap.size <= g
def Vx (w : World) (g len N : Nat) (wr : World) : Prop :=
 ∃ l : List Nat, l.length = len /\ Row wr g 59 Jj l /\ Dig 18446744073709551616 l /\ dv 18446744073709551616 l = N /\ Below w.heap.size w wr
def Jhe (w : World) (g len N : Nat) (k c top : Nat) (wr : World) : Prop :=
 ∃ l : List Nat, l.length = len /\ Row wr g 59 Jj l /\ Dig 18446744073709551616 l /\ dv 18446744073709551616 l + c * 18446744073709551616 ^ k = N /\ dv 18446744073709551616 (l.drop top) = 0 /\ Below w.heap.size w wr
theorem Jkk {m n x c hi lo s1 c1 s2 c2 : Nat} (h1 : m * n / 18446744073709551616 = hi) (h2 : m * n % 18446744073709551616 = lo) (h3 : (lo + x) % 18446744073709551616 = s1) (h4 : (lo + x) / 18446744073709551616 = c1) (h5 : (s1 + c) % 18446744073709551616 = s2) (h6 : (s1 + c) / 18446744073709551616 = c2) :
  s2 + 18446744073709551616 * (hi + c1 + c2) = x + m * n + c := by
 omega
theorem Jd4 (AX AY : Option Addr) (p q cX cY BX BY : Nat) (lX lY : List Nat) (w : World) (hX : Reads w BX 1 AX p (lX.map Jj)) (hY : Reads w BY 1 AY q (lY.map Jj)) (cL : BX <= w.heap.size) (cM : BY <= w.heap.size) (hp : p <= 8796093022208) (hq : q <= 8796093022208)
  (bT : Dig 18446744073709551616 lX) (bU : Dig 18446744073709551616 lY) :
  Calls Tryz.prog 126 #[.slice AX p cX, .slice AY q cY] w (Jlv w (dv 18446744073709551616 lX * dv 18446744073709551616 lY) (p + q)) := by
 have hlx := hX.lenf
 have bV := hY.lenf
 have bW := Ql (P := Tryz.prog) Jj 0 178 59 8 Tryz.underlying178 Tryz.infoU64 rfl .i64 .i64 (p + q) (by omega) (by omega)
 obtain ⟨L, hL⟩ : ∃ L, p + q = L := ⟨_, rfl⟩
 have dS : (p : Int) + (q : Int) = (L : Int) := by omega
 rw [hL] at bW ⊢
 have HL := lh (And.intro hlx (And.intro bV hL))
 clear hlx bV
 have dT : p <= L := by omega
 have aL : L <= 17592186044416 := by omega
 clear hL
 go_enter Tryz.func126, Tryz.ntmps126
 go_wp2_with fail
 clear bW
 have j7 := Row.rep w 59 Jj 0 L
 have p9 := Jb w (.cells (Array.replicate L (Jj 0)) 59)
 obtain ⟨g, hg⟩ : ∃ g, w.heap.size = g := ⟨_, rfl⟩
 have HG := lh hg
 rw [hg] at j7
 rw [hg]
 have aM : w.heap.size <= g := by omega
 clear hg
 go_loopw [6, 7, 8, 23] (fun _ _ _ i wr => ∃ k : Nat, k <= p /\ i = .int .i64 k /\ Vx w g L (dv 18446744073709551616 (lX.take k) * dv 18446744073709551616 lY) wr) (fun _ _ _ i _ => p - (intOf i).toNat)
 case atStart => exact ⟨0, Nat.zero_le _, rfl, _, by simp, j7, Dig.rep (by omega) _, by rw [Yo]; simp [dv], p9⟩
 case round =>
  obtain ⟨i, hi, rfl, l0, aN, aB, aC, q8, o9⟩ := hrel
  clear j7 p9
  by_cases bX : i < p
  ·have aO := hX.below (o9.mono cL)
   obtain ⟨ad, m, hA, p7, hm, aP⟩ := aO.atf bX
   have bY := bT.get hm
   have bZ := Jt (β := 18446744073709551616) hm
   have q9 : dv 18446744073709551616 (l0.drop (i + q)) = 0 := by
    apply Yw aC (by omega)
    rw [q8, Nat.pow_add]
    have h1 := Xf (bT.take i)
    have h2 := Xf bU
    rw [List.length_take, HL.out.1, Nat.min_eq_left (by omega)] at h1
    rw [HL.out.2.1] at h2
    exact Nat.mul_lt_mul'' h1 h2
   have HV0 := lh (And.intro q8 (And.intro aN (And.intro bZ hm)))
   unfold Jj at aP
   have dU : (i : Int) < (p : Int) := by omega
   clear q8 aN bZ hm
   subst hA
   go_wp2_with fail
   obtain ⟨wo, cA⟩ : ∃ wo : World, wo = wr := ⟨_, rfl⟩
   rw [<- cA] at o9 aB aO aP ⊢
   clear cA
   go_loopw [8, 9, 10, 11, 12, 13, 14, 30] (fun c _ _ _ _ _ _ j wr => ∃ t c' : Nat, t <= q /\ c' < 18446744073709551616 /\ j = .int .i64 t /\ c = .int .u64 c' /\ Jhe w g L (dv 18446744073709551616 (lX.take i) * dv 18446744073709551616 lY + m * dv 18446744073709551616 (lY.take t) * 18446744073709551616 ^ i) (i + t) c' (i + q) wr) (fun _ _ _ _ _ _ _ j _ => q - (intOf j).toNat)
   case atStart =>
    exact ⟨0, 0, Nat.zero_le _, by omega, rfl, rfl, l0, HV0.out.2.1, aB, aC, by rw [HV0.out.1]; simp [dv], q9, o9⟩
   case round =>
    obtain ⟨t, c, ht, cB, rfl, rfl, l, hl, hr, hd, hv, s9, hb⟩ := hrel
    clear aB aC q9 aO aP o9
    have HV := lh (And.intro hv (And.intro hl s9))
    clear hv hl s9
    by_cases aQ : t < q
    ·have cC := hY.below (hb.mono cM)
     obtain ⟨ad2, n, cN, cO, hn, cP⟩ := cC.atf aQ
     have cD := bU.get hn
     have t7 := Jt (β := 18446744073709551616) hn
     have p0 : i + t < L := by have := HL.out; omega
     obtain ⟨x, hx⟩ : ∃ x, l[i + t]? = some x := ⟨_, List.getElem?_eq_getElem (by rw [HV.out.2.1]; exact p0)⟩
     have aR := hd.get hx
     have aS := hr.cell hx
     have cQ := hr.frozen (i + t)
     obtain ⟨aD, aT⟩ : ∃ aD, m * n / 18446744073709551616 = aD := ⟨_, rfl⟩
     obtain ⟨lo', aU⟩ : ∃ lo', m * n % 18446744073709551616 = lo' := ⟨_, rfl⟩
     obtain ⟨s1, aV⟩ : ∃ s1, (lo' + x) % 18446744073709551616 = s1 := ⟨_, rfl⟩
     obtain ⟨c1, t8⟩ : ∃ c1, (lo' + x) / 18446744073709551616 = c1 := ⟨_, rfl⟩
     obtain ⟨s2, aW⟩ : ∃ s2, (s1 + c) % 18446744073709551616 = s2 := ⟨_, rfl⟩
     obtain ⟨c2, u4⟩ : ∃ c2, (s1 + c) / 18446744073709551616 = c2 := ⟨_, rfl⟩
     have o7 := Jkk aT aU aV t8 aW u4
     have cE := Jfr aR bY cD cB o7
     have cS : lo' < 18446744073709551616 := by omega
     have aX : s2 < 18446744073709551616 := by omega
     have cT : s1 < 18446744073709551616 := by omega
     have j8 := Tryz.bits_Mul64 m n bY cD
     rw [aT, aU] at j8
     have cF : ∀ w, (callFunc 164 #[.int .u64 (lo' : Int), .int .u64 (x : Int), .int .u64 0]).run Tryz.prog w = .ok (.value (.tuple #[.int .u64 (s1 : Int), .int .u64 (c1 : Int)])) w := fun w => by
      have := Zg lo' x 0 (by omega) w
      rw [Nat.add_zero, aV, t8] at this
      exact this
     have dV : ∀ w, (callFunc 164 #[.int .u64 (s1 : Int), .int .u64 (c : Int), .int .u64 0]).run Tryz.prog w = .ok (.value (.tuple #[.int .u64 (s2 : Int), .int .u64 (c2 : Int)])) w := fun w => by
      have := Zg s1 c 0 (by omega) w
      rw [Nat.add_zero, aW, u4] at this
      exact this
     obtain ⟨h1, cG⟩ : ∃ h1, aD + c1 = h1 := ⟨_, rfl⟩
     obtain ⟨C, hC⟩ : ∃ C, h1 + c2 = C := ⟨_, rfl⟩
     rw [cG, hC] at o7 cE
     have dW : IntKind.u64.wrap ((aD : Int) + (c1 : Int)) = (h1 : Int) := by rw [Jc _ (by omega) (by omega)]; omega
     have dX : IntKind.u64.wrap ((h1 : Int) + (c2 : Int)) = (C : Int) := by rw [Jc _ (by omega) (by omega)]; omega
     have l7 := Kq (s := s2) (c' := C) (b := m * n) hx o7 HV.out.1
     have o8 : dv 18446744073709551616 (l.set (i + t) s2) + C * 18446744073709551616 ^ (i + (t + 1)) = dv 18446744073709551616 (lX.take i) * dv 18446744073709551616 lY + m * dv 18446744073709551616 (lY.take (t + 1)) * 18446744073709551616 ^ i := by
      rw [<- Nat.add_assoc, l7, t7, Nat.mul_add, Nat.add_mul, Nat.pow_add, Nat.add_assoc]
      congr 2
      rw [Nat.mul_comm (18446744073709551616 ^ i), Nat.mul_assoc, Nat.mul_assoc, Nat.mul_assoc]
     have o0 : Jhe w g L (dv 18446744073709551616 (lX.take i) * dv 18446744073709551616 lY + m * dv 18446744073709551616 (lY.take (t + 1)) * 18446744073709551616 ^ i) (i + (t + 1)) C (i + q) (wr.setCell ⟨g, i + t, none⟩ (Jj s2)) := by
      refine ⟨l.set (i + t) s2, by rw [List.length_set]; exact HV.out.2.1, hr.set_ (i + t) s2, hd.set_ _ aX, o8, ?_, hb.setCell aM _⟩
      rw [List.drop_set_of_lt (by omega)]
      exact HV.out.2.2
     have HFIN := lh o0
     have HMUL := lh j8
     have k1 : ((i : Int) + (t : Int)).toNat = i + t := by omega
     have k2 : (i : Int) + (t : Int) < (L : Int) := by omega
     have k3 : (0 : Int) <= (i : Int) + (t : Int) := by omega
     have k4 : (t : Int) < (q : Int) := by omega
     unfold Jj at aS cP
     clear aT aU aV t8 aW u4 o7 cG hC l7 o8 o0 j8 hx hn t7 hd hb cC
     subst cN
     go_wp2_with fail
     refine (HMUL.out _).mono ?_
     rintro e w5 ⟨rfl, rfl⟩
     go_wp2
     exact ⟨⟨t + 1, C, by omega, cE, by go_num, rfl, HFIN.out⟩, by simp [intOf]; omega⟩
    obtain rfl : t = q := by omega
    have p0 : i + t < L := by have := HL.out; omega
    obtain ⟨x, hx⟩ : ∃ x, l[i + t]? = some x := ⟨_, List.getElem?_eq_getElem (by rw [HV.out.2.1]; exact p0)⟩
    have cU : x = 0 := Jaj (by omega) HV.out.2.2 (k := 0) (by rw [List.getElem?_drop]; exact hx)
    subst cU
    have aS := hr.cell hx
    have cQ := hr.frozen (i + t)
    have cV := Yd (β := 18446744073709551616) c hx
    have l7 : dv 18446744073709551616 (l.set (i + t) c) = dv 18446744073709551616 (lX.take (i + 1)) * dv 18446744073709551616 lY := by
     have h1 := HV.out.1
     rw [Qj (l := lY) (by rw [HL.out.2.1]; omega)] at h1
     rw [HV0.out.2.2.1, Nat.add_mul]
     have h2 : m * dv 18446744073709551616 lY * 18446744073709551616 ^ i = m * 18446744073709551616 ^ i * dv 18446744073709551616 lY := by rw [Nat.mul_right_comm]
     omega
    have o0 : Vx w g L (dv 18446744073709551616 (lX.take (i + 1)) * dv 18446744073709551616 lY) (wr.setCell ⟨g, i + t, none⟩ (Jj c)) :=
     ⟨l.set (i + t) c, by rw [List.length_set]; exact HV.out.2.1, hr.set_ (i + t) c, hd.set_ _ cB, l7, hb.setCell aM _⟩
    have HFIN := lh o0
    have k1 : ((i : Int) + (t : Int)).toNat = i + t := by omega
    have k2 : (i : Int) + (t : Int) < (L : Int) := by omega
    have k3 : (0 : Int) <= (i : Int) + (t : Int) := by omega
    have k4 : ¬ (t : Int) < (t : Int) := by omega
    unfold Jj at aS
    clear cV l7 o0 hx hd hb
    go_wp2
    exact ⟨⟨i + 1, by omega, by go_num, HFIN.out⟩, by simp [intOf]; omega⟩
  obtain rfl : i = p := by omega
  rw [List.take_of_length_le (by rw [HL.out.1]; omega)] at q8
  go_wp2
  go_ret
  exact ⟨g, l0, rfl, aN, aB, aC, q8, o9, aM⟩
theorem Zi {a b : Nat} (h : a < b) : Qw a b = -1 := by unfold Qw; rw [if_pos h]
theorem Yx {a b : Nat} (h : b < a) : Qw a b = 1 := by unfold Qw; rw [if_neg (by omega), if_pos h]
theorem Jak (a : Nat) : Qw a a = 0 := by unfold Qw; rw [if_neg (by omega), if_neg (by omega)]
theorem Jaz {β : Nat} {la lb : List Nat} {k x y : Nat} (cW : Dig β la) (dY : Dig β lb) (hβ : 0 < β) (hx : la[k]? = some x) (hy : lb[k]? = some y) (he : la.drop (k + 1) = lb.drop (k + 1)) (h : x < y) : dv β la < dv β lb := by
 have dZ : k < la.length := (List.getElem?_eq_some_iff.1 hx).1
 have eA : k < lb.length := (List.getElem?_eq_some_iff.1 hy).1
 have ha := Qz (β := β) (l := la) k (by omega)
 have hb := Qz (β := β) (l := lb) k (by omega)
 rw [Jv hx] at ha
 rw [Jv hy, <- he] at hb
 have h1 := Xf (cW.take k)
 rw [List.length_take, Nat.min_eq_left (by omega)] at h1
 have h2 : β ^ k * (x + 1 + β * dv β (la.drop (k + 1))) <= β ^ k * (y + β * dv β (la.drop (k + 1))) := Nat.mul_le_mul_left _ (by omega)
 rw [show x + 1 + β * dv β (la.drop (k + 1)) = (x + β * dv β (la.drop (k + 1))) + 1 from by omega, Nat.mul_add, Nat.mul_one] at h2
 omega
theorem Xi {a b : Nat} (h : (Jf a).length < (Jf b).length) : a < b := by
 have o9 : b ≠ 0 := by
  intro h0
  subst h0
  simp [Qd] at h
 have h1 := Xf (Jm a)
 rw [Jk] at h1
 obtain ⟨cH, eB, eC⟩ := Xd b o9
 have hl := congrArg List.length cH
 rw [List.length_append, List.length_singleton] at hl
 have hx : (Jf b)[(Jf b).length - 1]? = some (top b) := by
  rw [cH, List.getElem?_append_right (by simp)]
  simp
 have h2 := Jdk (β := 18446744073709551616) hx
 rw [Jk] at h2
 have h3 : 18446744073709551616 ^ (Jf a).length <= 18446744073709551616 ^ ((Jf b).length - 1) := Nat.pow_le_pow_right (by omega) (by omega)
 have h4 : 1 * 18446744073709551616 ^ ((Jf b).length - 1) <= top b * 18446744073709551616 ^ ((Jf b).length - 1) := Nat.mul_le_mul_right _ (by omega)
 omega
theorem Jlq {a b : Nat} (hl : (Jf a).length = (Jf b).length) (h : (Jf a).drop 1 = (Jf b).drop 1) : Qw (lo a) (lo b) = Qw a b := by
 by_cases ha : a = 0
 ·subst ha
  have hb : b = 0 := by
   rcases Nat.eq_zero_or_pos b with h0 | h0
   ·exact h0
   have := Xb b (by omega)
   rw [<- hl, Qd] at this
   simp at this
  subst hb
  rfl
 have hb : b ≠ 0 := by
  intro hb
  subst hb
  have := Xb a ha
  rw [hl, Qd] at this
  simp at this
 have e1 := Jk a
 have e2 := Jk b
 rw [Vo a ha, Xm] at e1
 rw [Vo b hb, Xm] at e2
 rw [<- List.drop_one] at e1 e2
 rw [<- h] at e2
 unfold Qw
 by_cases h1 : lo a < lo b
 ·rw [if_pos h1, if_pos (by omega)]
 rw [if_neg h1]
 by_cases h2 : lo b < lo a
 ·rw [if_pos h2, if_neg (by omega), if_pos (by omega)]
 rw [if_neg h2, if_neg (by omega), if_neg (by omega)]
def Jly (w : World) (a b : Nat) (wr : World) : Prop := Blk wr w.heap.size 61 #[.int .u64 (lo a : Int), .string (mo a)] /\ Blk wr (w.heap.size + 1) 61 #[.int .u64 (lo b : Int), .string (mo b)] /\ Below w.heap.size w wr
theorem Xv (a b : Nat) (w : World) (ha : Je a <= 1125899906842624) (hb : Je b <= 1125899906842624) : Calls Tryz.prog 119 #[Jh a, Jh b] w (Ret (.int .i64 (Qw a b)) w) := by
 have cZ := Ks a ha
 have dA := Ks b hb
 have aY := Kx a
 have aZ := Kx b
 unfold Jh
 obtain ⟨b0, b1, hB, hZ⟩ := bx2 w 61 #[.int .u64 (lo a : Int), .string (mo a)] 61 #[.int .u64 (lo b : Int), .string (mo b)]
 by_cases aE : (mo a).size = (mo b).size
 ·obtain ⟨L, hL⟩ : ∃ L, (Jf a).length - 1 = L := ⟨_, rfl⟩
  have aL : (Jf b).length - 1 = L := by omega
  have cI : (mo a).size = 8 * L := by omega
  have u5 : (mo b).size = 8 * L := by omega
  have eD : L <= 17592186044416 := by omega
  have o6 : (Jf a).length = (Jf b).length \/ L = 0 := by omega
  have dB : (((mo a).size : Int) != ((mo b).size : Int)) = false := by rw [aE]; simp
  have HS := lh (And.intro cI (And.intro u5 (And.intro hL (And.intro aL o6))))
  clear aY aZ aE hL aL cI u5 o6
  have dC : ((mo a).size : Int) - 8 = 8 * (L : Int) - 8 := by have := HS.out.1; omega
  go_enter Tryz.func119, Tryz.ntmps119
  go_wp2_with fail
  generalize ((w.alloc (.cells #[.int .u64 (lo a : Int), .string (mo a)] 61)).alloc (.cells #[.int .u64 (lo b : Int), .string (mo b)] 61)) = W at *
  clear dC
  go_loopw [5] (fun i wr => ∃ k : Nat, k <= L /\ i = .int .i64 (8 * (k : Int) - 8) /\ Jly w a b wr /\ Hid ((Jf a).drop (k + 1) = (Jf b).drop (k + 1))) (fun i _ => (intOf i + 8).toNat)
  case atStart =>
   refine ⟨L, Nat.le_refl _, rfl, ⟨b0, b1, hB⟩, ?_⟩
   show _ = _
   have := HS.out
   rw [List.drop_of_length_le (by omega), List.drop_of_length_le (by omega)]
  case round =>
   obtain ⟨k, hk, rfl, ⟨c0, c1, bA⟩, HK⟩ := hrel
   obtain ⟨e8, e9⟩ := c0.c2; obtain ⟨j0, j6⟩ := c1.c2
   by_cases h0 : k = 0
   ·subst h0
    go_wp2_with fail
    refine (Ja1 (lo a) (lo b) _).mono ?_
    rintro e w1 ⟨rfl, rfl⟩
    have e : Qw (lo a) (lo b) = Qw a b := by
     rcases HS.out.2.2.2.2 with h1 | h1
     ·exact Jlq h1 HK.out
     have h2 := HS.out
     have cF : a < 18446744073709551616 := by
      rcases Nat.lt_or_ge a 18446744073709551616 with h3 | h3
      ·exact h3
      have := Za a (by omega)
      omega
     have p8 : b < 18446744073709551616 := by
      rcases Nat.lt_or_ge b 18446744073709551616 with h3 | h3
      ·exact h3
      have := Za b (by omega)
      omega
     rw [Jo a cF, Jo b p8]
    rw [e]
    clear e
    go_wp2
    go_ret
    exact ⟨rfl, bA⟩
   obtain ⟨j, rfl⟩ : ∃ j, k = j + 1 := ⟨k - 1, by omega⟩
   have hq := HS.out
   obtain ⟨x, hx⟩ : ∃ x, (Jf a)[j + 1]? = some x := ⟨_, List.getElem?_eq_getElem (by omega)⟩
   obtain ⟨y, hy⟩ : ∃ y, (Jf b)[j + 1]? = some y := ⟨_, List.getElem?_eq_getElem (by omega)⟩
   have aR := Yi a x (List.mem_of_getElem? hx)
   have dD := Yi b y (List.mem_of_getElem? hy)
   have dE : ∀ w, (Instr.slice 9 (.string (mo a)) (some (.int .i64 (8 * (j : Int)))) none none).run Tryz.prog w = .ok (.string ((mo a).extract (8 * j) (mo a).size)) w := fun w => by
    have := Ys (P := Tryz.prog) 9 Tryz.underlying9 (mo a) .i64 (8 * (j : Int)) (by omega) (by omega) w
    rw [this, show (8 * (j : Int)).toNat = 8 * j from by omega]
   have dF : ∀ w, (Instr.slice 9 (.string (mo b)) (some (.int .i64 (8 * (j : Int)))) none none).run Tryz.prog w = .ok (.string ((mo b).extract (8 * j) (mo b).size)) w := fun w => by
    have := Ys (P := Tryz.prog) 9 Tryz.underlying9 (mo b) .i64 (8 * (j : Int)) (by omega) (by omega) w
    rw [this, show (8 * (j : Int)).toNat = 8 * j from by omega]
   obtain ⟨rA, aF⟩ := Jdt a (j + 1) x (by omega) hx
   obtain ⟨rB, aG⟩ := Jdt b (j + 1) y (by omega) hy
   rw [Nat.add_sub_cancel] at aF aG
   have x7 : ((mo a).extract (8 * j) (mo a).size).data.toList = leB x ++ rA := by
    rw [Lib.extract_data, aF, List.take_of_length_le]
    have h5 := congrArg List.length aF
    rw [List.length_drop, <- Lib.size_eq] at h5
    omega
   have x8 : ((mo b).extract (8 * j) (mo b).size).data.toList = leB y ++ rB := by
    rw [Lib.extract_data, aG, List.take_of_length_le]
    have h5 := congrArg List.length aG
    rw [List.length_drop, <- Lib.size_eq] at h5
    omega
   have HEA := lh x7
   have HEB := lh x8
   have HXY := lh (And.intro hx hy)
   generalize (mo a).extract (8 * j) (mo a).size = sA at *
   generalize (mo b).extract (8 * j) (mo b).size = sB at *
   clear x7 x8 hx hy aF aG hq
   rw [show (8 * ((j + 1 : Nat) : Int) - 8) = 8 * (j : Int) from by omega]
   have eE : (0 : Int) <= 8 * (j : Int) := by omega
   have eF : (8 : Int) * (j : Int) <= 140737488355328 := by omega
   have eG : IntKind.i64.wrap (8 * (j : Int)) = 8 * (j : Int) := IntWalk.i64_in _ (by omega)
   go_wp2_with fail
   go_quiet (first | (go_at_call_of 150 (Value.string sA); refine Calls.quiet_of (Yu sA x rA aR HEA.out _)) | (go_at_call_of 150 (Value.string sB); refine Calls.quiet_of (Yu sB y rB dD HEB.out _)))
   have o6 : (Jf a).length = (Jf b).length := by have := HS.out; omega
   have HLEN := lh o6
   clear o6
   by_cases dG : x = y
   ·subst dG
    have bB : ((x : Int) != (x : Int)) = false := by simp
    go_wp2
    refine ⟨⟨j, by omega, by go_num, ⟨c0.drewN _, c1.drewN _, Jx bA _⟩, ?_⟩, by simp [intOf]; omega⟩
    show _ = _
    have h1 := HXY.out
    rw [List.drop_eq_getElem_cons (List.getElem?_eq_some_iff.1 h1.1).1, List.drop_eq_getElem_cons (List.getElem?_eq_some_iff.1 h1.2).1, (List.getElem?_eq_some_iff.1 h1.1).2, (List.getElem?_eq_some_iff.1 h1.2).2, HK.out]
   have bB : ((x : Int) != (y : Int)) = true := by simp [bne_iff_ne]; omega
   have e : Qw x y = Qw a b := by
    have h1 := HXY.out
    rcases Nat.lt_or_ge x y with h2 | h2
    ·have h3 := Jaz (Jm a) (Jm b) (by omega) h1.1 h1.2 HK.out h2
     rw [Jk, Jk] at h3
     rw [Zi h2, Zi h3]
    have h3 := Jaz (Jm b) (Jm a) (by omega) h1.2 h1.1 HK.out.symm (show y < x by omega)
    rw [Jk, Jk] at h3
    rw [Yx (show y < x by omega), Yx h3]
   have HE := lh e
   clear e
   go_wp2_with fail
   refine (Ja1 x y _).mono ?_
   rintro e w1 ⟨rfl, rfl⟩
   rw [HE.out]
   go_wp2
   go_ret
   exact ⟨rfl, Jx bA _⟩
 rcases Nat.lt_or_ge (mo a).size (mo b).size with bX | hge
 ·have e := Zi (Xi (a := a) (b := b) (by omega))
  rw [e]
  have h1 : (((mo a).size : Int) != ((mo b).size : Int)) = true := by simp [bne_iff_ne]; omega
  have h2 : ((mo a).size : Int) < ((mo b).size : Int) := by omega
  clear aY aZ e aE
  go_enter Tryz.func119, Tryz.ntmps119
  go_wp2
  go_ret
  exact ⟨rfl, hB⟩
 have e := Yx (Xi (a := b) (b := a) (by omega))
 rw [e]
 have h1 : (((mo a).size : Int) != ((mo b).size : Int)) = true := by simp [bne_iff_ne]; omega
 have h2 : ¬ ((mo a).size : Int) < ((mo b).size : Int) := by omega
 clear aY aZ e aE
 go_enter Tryz.func119, Tryz.ntmps119
 go_wp2
 go_ret
 exact ⟨rfl, hB⟩
theorem Jcq (a b : Nat) (w : World) (ha : a < 18446744073709551616) (hb : b < 18446744073709551616) : Calls Tryz.prog 79 #[Jh a, Jh b] w (Ret (Jh (a * b)) w) := by
 unfold Jh
 obtain ⟨S, hS⟩ : ∃ S, a * b % 18446744073709551616 = S := ⟨_, rfl⟩
 obtain ⟨C, hC⟩ : ∃ C, a * b / 18446744073709551616 = C := ⟨_, rfl⟩
 have p7 : a * b = S + 18446744073709551616 * C := by omega
 have j8 := Tryz.bits_Mul64 a b ha hb
 rw [hS, hC] at j8
 have HMUL := lh j8
 have bC : S < 18446744073709551616 := by omega
 have eH : C < 18446744073709551616 := by
  rw [<- hC, Nat.div_lt_iff_lt_mul (by omega)]
  exact Nat.mul_lt_mul'' ha hb
 clear j8 hS hC
 obtain ⟨N, hN⟩ : ∃ N, a * b = N := ⟨_, rfl⟩
 rw [hN] at p7 ⊢
 have HN := lh p7
 clear p7 hN
 have ea := Ju a ha
 have eb := Ju b hb
 rw [ea, eb, Jo a ha, Jo b hb]
 clear ea eb
 have b2 := Blk.new3 w (.cells #[.int .u64 (a : Int), .string ⟨#[]⟩] 61) (.cells #[.int .u64 (b : Int), .string ⟨#[]⟩] 61) 61 #[.int .u64 0, .string ⟨#[]⟩]
 have hB := Jbe w (.cells #[.int .u64 (a : Int), .string ⟨#[]⟩] 61) (.cells #[.int .u64 (b : Int), .string ⟨#[]⟩] 61) (.cells #[.int .u64 0, .string ⟨#[]⟩] 61)
 have hZ := lh (show (((w.alloc (.cells #[.int .u64 (a : Int), .string ⟨#[]⟩] 61)).alloc (.cells #[.int .u64 (b : Int), .string ⟨#[]⟩] 61)).alloc (.cells #[.int .u64 0, .string ⟨#[]⟩] 61)).heap.size = w.heap.size + 1 + 1 + 1 from by simp)
 by_cases dH : C = 0
 ·subst dH
  have e : N = S := by have := HN.out; omega
  rw [e, Ju S bC, Jo S bC]
  clear e
  go_enter Tryz.func79, Tryz.ntmps79
  go_wp2_with fail
  refine (HMUL.out _).mono ?_
  rintro e w1 ⟨rfl, rfl⟩
  go_wp2
  go_returns
  exact ⟨rfl, Jbe w _ _ _⟩
 have eI : ((C : Int) == 0) = false := by simp; omega
 go_enter Tryz.func79, Tryz.ntmps79
 go_wp2_with fail
 refine (HMUL.out _).mono ?_
 rintro e w1 ⟨rfl, rfl⟩
 go_wp2_with fail
 generalize ((w.alloc (.cells #[.int .u64 (a : Int), .string ⟨#[]⟩] 61)).alloc (.cells #[.int .u64 (b : Int), .string ⟨#[]⟩] 61)).alloc (.cells #[.int .u64 0, .string ⟨#[]⟩] 61) = W at *
 have j7 := (Row.new W 59 Jj [S, C]).reads
 rw [hZ.out] at j7
 refine (Qc _ 2 2 _ [S, C] _ j7 (by simp; have := hZ.out; omega) (Dig.cons bC (Dig.cons (by omega) Dig.nil)) (by omega) (by omega)).mono ?_
 rintro e w1 ⟨rfl, p8⟩
 have e : dv 18446744073709551616 [S, C] = N := by
  simp only [dv]
  have := HN.out
  omega
 rw [e]
 have p8 := Ja (Jb W _) p8
 (try clear bD bE bF bG x9 y8); obtain ⟨b2, bD, bE, bF, bG, x9, y8⟩ := b2.zf2 p8
 have dI := Ja hB p8
 clear e j7
 unfold Jh
 go_wp2
 refine bodyPost_ret (v := .agg #[.int .u64 (lo N : Int), .string (mo N)]) (by simp [results, Tryz.results79, go_sem, x9, y8]) rfl ?_
 exact ⟨rfl, Xg dI (by omega) _ _⟩
theorem Jfc (a b : Nat) (w : World) (p7 : ¬ (a < 18446744073709551616 /\ b < 18446744073709551616)) (ha : Je a <= 1099511627776) (hb : Je b <= 1099511627776) : Calls Tryz.prog 79 #[Jh a, Jh b] w (Ret (Jh (a * b)) w) := by
 have cZ := Qm a ha
 have dA := Qm b hb
 have hc : (¬ (mo a).toList = [] /\ (mo a).toList.isEmpty = false) \/ ((mo a).toList = [] /\ (mo a).toList.isEmpty = true /\ ¬ (mo b).toList = [] /\ (mo b).toList.isEmpty = false) := by
  by_cases h : a < 18446744073709551616
  ·have h1 := Ym a h
   exact .inr ⟨h1.1, h1.2, Zq b (fun h2 => p7 ⟨h, h2⟩)⟩
  exact .inl (Zq a h)
 unfold Jh
 obtain ⟨b0, b1, b2, hB, hZ⟩ := bx3 w 61 #[.int .u64 (lo a : Int), .string (mo a)] 61 #[.int .u64 (lo b : Int), .string (mo b)] 61 #[.int .u64 0, .string ⟨#[]⟩]
 have dJ := Jm a
 have dK := Jm b
 have HVA := lh (And.intro (Jk a) (Jk b))
 go_enter Tryz.func79, Tryz.ntmps79
 rcases hc with ⟨t8, u4⟩ | ⟨t8, u4, eJ, eK⟩
 all_goals
  go_wp2_with fail
  generalize (((w.alloc (.cells #[.int .u64 (lo a : Int), .string (mo a)] 61)).alloc (.cells #[.int .u64 (lo b : Int), .string (mo b)] 61)).alloc (.cells #[.int .u64 0, .string ⟨#[]⟩] 61)) = W at *
  obtain ⟨dL, dM⟩ := b0.c2; obtain ⟨dN, dO⟩ := b1.c2
  have c0 := b0.drew
  have c1 := b1.drew
  have c2 := b2.drew
  have eL := neA w.heap.size
  have hn2 := neB w.heap.size
  go_region_held3 (fun w' => w'.cell? ⟨w.heap.size, 0, none⟩ = some (.int .u64 (lo a : Int)) /\ w'.cell? ⟨w.heap.size, 1, none⟩ = some (.string (mo a)) /\ w'.cell? ⟨w.heap.size + 1, 0, none⟩ = some (.int .u64 (lo b : Int)) /\ w'.cell? ⟨w.heap.size + 1, 1, none⟩ = some (.string (mo b))) (go_keep) (first | (go_at_call_of 127 (Value.agg #[.int .u64 (lo a : Int), .string (mo a)]); refine (Xe a _ (by omega) (by omega)).mono ?_; rintro e wa ⟨va, rfl, aH⟩; have bH := aH.2.1; obtain ⟨Aa, ca, rfl, eM, _⟩ := aH.1.form; (try clear e8 e9); obtain ⟨c0, e8, e9⟩ := c0.zc2 bH; (try clear j0 j6); obtain ⟨c1, j0, j6⟩ := c1.zc2 bH; (try clear j9 l5); obtain ⟨c2, j9, l5⟩ := c2.zc2 bH) | (go_at_call_of 127 (Value.agg #[.int .u64 (lo b : Int), .string (mo b)]); refine (Xe b _ (by omega) (by omega)).mono ?_; rintro e wb ⟨vb, rfl, aI⟩; have bI := aI.2.1; obtain ⟨Ab, cb, rfl, eN, _⟩ := aI.1.form; (try clear e8 e9); obtain ⟨c0, e8, e9⟩ := c0.zc2 bI; (try clear j0 j6); obtain ⟨c1, j0, j6⟩ := c1.zc2 bI; (try clear j9 l5); obtain ⟨c2, j9, l5⟩ := c2.zc2 bI) | (go_at_call 126; (first | have hT := Two.ab aH aI | have hT := Two.ba aI aH); refine (Jd4 _ _ _ _ _ _ _ _ (Jf a) (Jf b) _ (Own.reads hT.1) (Own.reads hT.2.1) zd zd (by omega) (by omega) dJ dK).mono ?_; rintro e wm ⟨gm, lm, rfl, dP, cJ, dQ, dR, aJ, eO⟩; (try clear e8 e9); obtain ⟨c0, e8, e9⟩ := c0.zc2 aJ; (try clear j0 j6); obtain ⟨c1, j0, j6⟩ := c1.zc2 aJ; (try clear j9 l5); obtain ⟨c2, j9, l5⟩ := c2.zc2 aJ) | (go_at_call 125; have cK := cJ.reads; rw [dP] at cK; refine (Qc _ _ _ _ lm _ cK cJ.lt dQ (by omega) zd).mono ?_; rintro e wf ⟨rfl, aK⟩; rw [dR, HVA.out.1, HVA.out.2]; unfold Jh; (try clear e8 e9 bJ bK bL bM); obtain ⟨c0, e8, e9, bJ, bK, bL, bM⟩ := c0.zf2 aK; (try clear j0 j6 bN bO bP bQ); obtain ⟨c1, j0, j6, bN, bO, bP, bQ⟩ := c1.zf2 aK; (try clear j9 l5 bR bS y9 aA); obtain ⟨c2, j9, l5, bR, bS, y9, aA⟩ := c2.zf2 aK))
  all_goals
   go_wp2
   refine bodyPost_ret (v := .agg #[.int .u64 (lo (a * b) : Int), .string (mo (a * b))]) (by simp [results, Tryz.results79, go_sem, y9, aA]) rfl ?_
   exact ⟨rfl, Xg (Ja (Ja (Ja hB hT.2.2.1) aJ) aK) (by omega) _ _⟩
theorem Jd5 (a b : Nat) (w : World) (ha : Je a <= 1099511627776) (hb : Je b <= 1099511627776) : Calls Tryz.prog 79 #[Jh a, Jh b] w (Ret (Jh (a * b)) w) := by
 by_cases h : a < 18446744073709551616 /\ b < 18446744073709551616
 ·exact Jcq a b w h.1 h.2
 exact Jfc a b w h ha hb
