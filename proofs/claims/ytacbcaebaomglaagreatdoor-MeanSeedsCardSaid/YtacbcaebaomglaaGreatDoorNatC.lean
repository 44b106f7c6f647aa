import Derived.Test.YtacbcaebaomglaaGreatDoorNatB
import Derived.Deep.QuietTactic
import Derived.BigQuiet
namespace Go.Proofs.YtacbcaebaomglaaGreatDoor
set_option maxRecDepth 100000
set_option maxHeartbeats 1000000
open Go.RowKit
set_option linter.all false
theorem Jd (z : Int) (h0 : 0 <= z) (h1 : z < 18446744073709551616) : IntKind.u64.wrap z = z := by
 simp only [IntKind.wrap, IntKind.bits, IntKind.signed]
 simp
 omega
def Jor (w : World) (N len : Nat) (e : Ending) (w' : World) : Prop :=
 ∃ (g : Nat) (l : List Nat), e = .returned (.slice (some ⟨g, 0, none⟩) len len) /\ l.length = len /\ Row w' g 59 Jk l /\ Dig 18446744073709551616 l /\ dv 18446744073709551616 l = N /\ Below w.heap.size w w' /\ w.heap.size <= g
def Jbn (w : World) (g len N : Nat) (wr : World) : Prop :=
 ∃ l : List Nat, l.length = len /\ Row wr g 59 Jk l /\ Dig 18446744073709551616 l /\ dv 18446744073709551616 l = N /\ Below w.heap.size w wr
def Jkc (w : World) (g len N : Nat) (k c top : Nat) (wr : World) : Prop :=
 ∃ l : List Nat, l.length = len /\ Row wr g 59 Jk l /\ Dig 18446744073709551616 l /\ dv 18446744073709551616 l + c * 18446744073709551616 ^ k = N /\ dv 18446744073709551616 (l.drop top) = 0 /\ Below w.heap.size w wr
theorem Jni {m n x c hi lo s1 c1 s2 c2 : Nat} (h1 : m * n / 18446744073709551616 = hi) (h2 : m * n % 18446744073709551616 = lo) (h3 : (lo + x) % 18446744073709551616 = s1) (h4 : (lo + x) / 18446744073709551616 = c1) (h5 : (s1 + c) % 18446744073709551616 = s2) (h6 : (s1 + c) / 18446744073709551616 = c2) :
  s2 + 18446744073709551616 * (hi + c1 + c2) = x + m * n + c := by
 omega
theorem Jgk (AX AY : Option Addr) (p q cX cY BX BY : Nat) (lX lY : List Nat) (w : World) (hX : Reads w BX 1 AX p (lX.map Jk)) (hY : Reads w BY 1 AY q (lY.map Jk)) (cQ : BX <= w.heap.size) (cS : BY <= w.heap.size) (hp : p <= 8796093022208) (hq : q <= 8796093022208)
  (bY : Dig 18446744073709551616 lX) (bZ : Dig 18446744073709551616 lY) :
  Calls Tryz.prog 126 #[.slice AX p cX, .slice AY q cY] w (Jor w (dv 18446744073709551616 lX * dv 18446744073709551616 lY) (p + q)) := by
 have hlx := hX.lenf
 have cA := hY.lenf
 have cB := Qf (P := Tryz.prog) Jk 0 178 59 8 Tryz.underlying178 Tryz.infoU64 rfl .i64 .i64 (p + q) (by omega) (by omega)
 obtain ⟨L, hL⟩ : ∃ L, p + q = L := ⟨_, rfl⟩
 have dX : (p : Int) + (q : Int) = (L : Int) := by omega
 rw [hL] at cB ⊢
 have HL := lh (And.intro hlx (And.intro cA hL))
 clear hlx cA
 have dY : p <= L := by omega
 have aQ : L <= 17592186044416 := by omega
 clear hL
 go_enter Tryz.func126, Tryz.ntmps126
 go_wp2_with fail
 clear cB
 have j7 := Row.rep w 59 Jk 0 L
 have t7 := Jb w (.cells (Array.replicate L (Jk 0)) 59)
 obtain ⟨g, hg⟩ : ∃ g, w.heap.size = g := ⟨_, rfl⟩
 have HG := lh hg
 rw [hg] at j7
 rw [hg]
 have aR : w.heap.size <= g := by omega
 clear hg
 go_loopw [6, 7, 8, 23] (fun _ _ _ i wr => ∃ k : Nat, k <= p /\ i = .int .i64 k /\ Jbn w g L (dv 18446744073709551616 (lX.take k) * dv 18446744073709551616 lY) wr) (fun _ _ _ i _ => p - (intOf i).toNat)
 case atStart => exact ⟨0, Nat.zero_le _, rfl, _, by simp, j7, Dig.rep (by omega) _, by rw [Kk]; simp [dv], t7⟩
 case round =>
  obtain ⟨i, hi, rfl, l0, aS, aG, aH, t8, p8⟩ := hrel
  clear j7 t7
  by_cases cC : i < p
  ·have aT := hX.below (p8.mono cQ)
   obtain ⟨ad, m, hA, q8, hm, aU⟩ := aT.atf cC
   have cD := bY.get hm
   have cE := Js (β := 18446744073709551616) hm
   have u4 : dv 18446744073709551616 (l0.drop (i + q)) = 0 := by
    apply Km aH (by omega)
    rw [t8, Nat.pow_add]
    have h1 := Xm (bY.take i)
    have h2 := Xm bZ
    rw [List.length_take, HL.out.1, Nat.min_eq_left (by omega)] at h1
    rw [HL.out.2.1] at h2
    exact Nat.mul_lt_mul'' h1 h2
   have HV0 := lh (And.intro t8 (And.intro aS (And.intro cE hm)))
   unfold Jk at aU
   have dZ : (i : Int) < (p : Int) := by omega
   clear t8 aS cE hm
   subst hA
   go_wp2_with fail
   obtain ⟨wo, cF⟩ : ∃ wo : World, wo = wr := ⟨_, rfl⟩
   rw [<- cF] at p8 aG aT aU ⊢
   clear cF
   go_loopw [8, 9, 10, 11, 12, 13, 14, 30] (fun c _ _ _ _ _ _ j wr => ∃ t c' : Nat, t <= q /\ c' < 18446744073709551616 /\ j = .int .i64 t /\ c = .int .u64 c' /\ Jkc w g L (dv 18446744073709551616 (lX.take i) * dv 18446744073709551616 lY + m * dv 18446744073709551616 (lY.take t) * 18446744073709551616 ^ i) (i + t) c' (i + q) wr) (fun _ _ _ _ _ _ _ j _ => q - (intOf j).toNat)
   case atStart =>
    exact ⟨0, 0, Nat.zero_le _, by omega, rfl, rfl, l0, HV0.out.2.1, aG, aH, by rw [HV0.out.1]; simp [dv], u4, p8⟩
   case round =>
    obtain ⟨t, c, ht, cG, rfl, rfl, l, hl, hr, hd, hv, x7, hb⟩ := hrel
    clear aG aH u4 aT aU p8
    have HV := lh (And.intro hv (And.intro hl x7))
    clear hv hl x7
    by_cases aV : t < q
    ·have cH := hY.below (hb.mono cS)
     obtain ⟨ad2, n, cT, cU, hn, cV⟩ := cH.atf aV
     have cI := bZ.get hn
     have x8 := Js (β := 18446744073709551616) hn
     have p9 : i + t < L := by have := HL.out; omega
     obtain ⟨x, hx⟩ : ∃ x, l[i + t]? = some x := ⟨_, List.getElem?_eq_getElem (by rw [HV.out.2.1]; exact p9)⟩
     have aW := hd.get hx
     have aX := hr.cell hx
     have cW := hr.frozen (i + t)
     obtain ⟨aI, aY⟩ : ∃ aI, m * n / 18446744073709551616 = aI := ⟨_, rfl⟩
     obtain ⟨lo', aZ⟩ : ∃ lo', m * n % 18446744073709551616 = lo' := ⟨_, rfl⟩
     obtain ⟨s1, bA⟩ : ∃ s1, (lo' + x) % 18446744073709551616 = s1 := ⟨_, rfl⟩
     obtain ⟨c1, x9⟩ : ∃ c1, (lo' + x) / 18446744073709551616 = c1 := ⟨_, rfl⟩
     obtain ⟨s2, bB⟩ : ∃ s2, (s1 + c) % 18446744073709551616 = s2 := ⟨_, rfl⟩
     obtain ⟨c2, y8⟩ : ∃ c2, (s1 + c) / 18446744073709551616 = c2 := ⟨_, rfl⟩
     have o9 := Jni aY aZ bA x9 bB y8
     have cJ := Jij aW cD cI cG o9
     have cZ : lo' < 18446744073709551616 := by omega
     have bC : s2 < 18446744073709551616 := by omega
     have dA : s1 < 18446744073709551616 := by omega
     have j8 := Tryz.bits_Mul64 m n cD cI
     rw [aY, aZ] at j8
     have cK : ∀ w, (callFunc 164 #[.int .u64 (lo' : Int), .int .u64 (x : Int), .int .u64 0]).run Tryz.prog w = .ok (.value (.tuple #[.int .u64 (s1 : Int), .int .u64 (c1 : Int)])) w := fun w => by
      have := Yl lo' x 0 (by omega) w
      rw [Nat.add_zero, bA, x9] at this
      exact this
     have eA : ∀ w, (callFunc 164 #[.int .u64 (s1 : Int), .int .u64 (c : Int), .int .u64 0]).run Tryz.prog w = .ok (.value (.tuple #[.int .u64 (s2 : Int), .int .u64 (c2 : Int)])) w := fun w => by
      have := Yl s1 c 0 (by omega) w
      rw [Nat.add_zero, bB, y8] at this
      exact this
     obtain ⟨h1, cL⟩ : ∃ h1, aI + c1 = h1 := ⟨_, rfl⟩
     obtain ⟨C, hC⟩ : ∃ C, h1 + c2 = C := ⟨_, rfl⟩
     rw [cL, hC] at o9 cJ
     have eB : IntKind.u64.wrap ((aI : Int) + (c1 : Int)) = (h1 : Int) := by rw [Jd _ (by omega) (by omega)]; omega
     have eC : IntKind.u64.wrap ((h1 : Int) + (c2 : Int)) = (C : Int) := by rw [Jd _ (by omega) (by omega)]; omega
     have o6 := Ua (s := s2) (c' := C) (b := m * n) hx o9 HV.out.1
     have p7 : dv 18446744073709551616 (l.set (i + t) s2) + C * 18446744073709551616 ^ (i + (t + 1)) = dv 18446744073709551616 (lX.take i) * dv 18446744073709551616 lY + m * dv 18446744073709551616 (lY.take (t + 1)) * 18446744073709551616 ^ i := by
      rw [<- Nat.add_assoc, o6, x8, Nat.mul_add, Nat.add_mul, Nat.pow_add, Nat.add_assoc]
      congr 2
      rw [Nat.mul_comm (18446744073709551616 ^ i), Nat.mul_assoc, Nat.mul_assoc, Nat.mul_assoc]
     have o7 : Jkc w g L (dv 18446744073709551616 (lX.take i) * dv 18446744073709551616 lY + m * dv 18446744073709551616 (lY.take (t + 1)) * 18446744073709551616 ^ i) (i + (t + 1)) C (i + q) (wr.setCell ⟨g, i + t, none⟩ (Jk s2)) := by
      refine ⟨l.set (i + t) s2, by rw [List.length_set]; exact HV.out.2.1, hr.set_ (i + t) s2, hd.set_ _ bC, p7, ?_, hb.setCell aR _⟩
      rw [List.drop_set_of_lt (by omega)]
      exact HV.out.2.2
     have HFIN := lh o7
     have HMUL := lh j8
     have k1 : ((i : Int) + (t : Int)).toNat = i + t := by omega
     have k2 : (i : Int) + (t : Int) < (L : Int) := by omega
     have k3 : (0 : Int) <= (i : Int) + (t : Int) := by omega
     have k4 : (t : Int) < (q : Int) := by omega
     unfold Jk at aX cV
     clear aY aZ bA x9 bB y8 o9 cL hC o6 p7 o7 j8 hx hn x8 hd hb cH
     subst cT
     go_wp2_with fail
     refine (HMUL.out _).mono ?_
     rintro e w5 ⟨rfl, rfl⟩
     go_wp2
     exact ⟨⟨t + 1, C, by omega, cJ, by go_num, rfl, HFIN.out⟩, by simp [intOf]; omega⟩
    obtain rfl : t = q := by omega
    have p9 : i + t < L := by have := HL.out; omega
    obtain ⟨x, hx⟩ : ∃ x, l[i + t]? = some x := ⟨_, List.getElem?_eq_getElem (by rw [HV.out.2.1]; exact p9)⟩
    have dB : x = 0 := Ja2 (by omega) HV.out.2.2 (k := 0) (by rw [List.getElem?_drop]; exact hx)
    subst dB
    have aX := hr.cell hx
    have cW := hr.frozen (i + t)
    have dC := Yx (β := 18446744073709551616) c hx
    have o6 : dv 18446744073709551616 (l.set (i + t) c) = dv 18446744073709551616 (lX.take (i + 1)) * dv 18446744073709551616 lY := by
     have h1 := HV.out.1
     rw [Qo (l := lY) (by rw [HL.out.2.1]; omega)] at h1
     rw [HV0.out.2.2.1, Nat.add_mul]
     have h2 : m * dv 18446744073709551616 lY * 18446744073709551616 ^ i = m * 18446744073709551616 ^ i * dv 18446744073709551616 lY := by rw [Nat.mul_right_comm]
     omega
    have o7 : Jbn w g L (dv 18446744073709551616 (lX.take (i + 1)) * dv 18446744073709551616 lY) (wr.setCell ⟨g, i + t, none⟩ (Jk c)) :=
     ⟨l.set (i + t) c, by rw [List.length_set]; exact HV.out.2.1, hr.set_ (i + t) c, hd.set_ _ cG, o6, hb.setCell aR _⟩
    have HFIN := lh o7
    have k1 : ((i : Int) + (t : Int)).toNat = i + t := by omega
    have k2 : (i : Int) + (t : Int) < (L : Int) := by omega
    have k3 : (0 : Int) <= (i : Int) + (t : Int) := by omega
    have k4 : ¬ (t : Int) < (t : Int) := by omega
    unfold Jk at aX
    clear dC o6 o7 hx hd hb
    go_wp2
    exact ⟨⟨i + 1, by omega, by go_num, HFIN.out⟩, by simp [intOf]; omega⟩
  obtain rfl : i = p := by omega
  rw [List.take_of_length_le (by rw [HL.out.1]; omega)] at t8
  go_wp2
  go_ret
  exact ⟨g, l0, rfl, aS, aG, aH, t8, p8, aR⟩
theorem Zu {a b : Nat} (h : a < b) : Qx a b = -1 := by unfold Qx; rw [if_pos h]
theorem Uj {a b : Nat} (h : b < a) : Qx a b = 1 := by unfold Qx; rw [if_neg (by omega), if_pos h]
theorem Jb4 (a : Nat) : Qx a a = 0 := by unfold Qx; rw [if_neg (by omega), if_neg (by omega)]
theorem Jcq {β : Nat} {la lb : List Nat} {k x y : Nat} (dD : Dig β la) (eD : Dig β lb) (hβ : 0 < β) (hx : la[k]? = some x) (hy : lb[k]? = some y) (he : la.drop (k + 1) = lb.drop (k + 1)) (h : x < y) : dv β la < dv β lb := by
 have eE : k < la.length := (List.getElem?_eq_some_iff.1 hx).1
 have eF : k < lb.length := (List.getElem?_eq_some_iff.1 hy).1
 have ha := Xl (β := β) (l := la) k (by omega)
 have hb := Xl (β := β) (l := lb) k (by omega)
 rw [Qb hx] at ha
 rw [Qb hy, <- he] at hb
 have h1 := Xm (dD.take k)
 rw [List.length_take, Nat.min_eq_left (by omega)] at h1
 have h2 : β ^ k * (x + 1 + β * dv β (la.drop (k + 1))) <= β ^ k * (y + β * dv β (la.drop (k + 1))) := Nat.mul_le_mul_left _ (by omega)
 rw [show x + 1 + β * dv β (la.drop (k + 1)) = (x + β * dv β (la.drop (k + 1))) + 1 from by omega, Nat.mul_add, Nat.mul_one] at h2
 omega
theorem Zc {a b : Nat} (h : (Jf a).length < (Jf b).length) : a < b := by
 have p8 : b ≠ 0 := by
  intro h0
  subst h0
  simp [Qh] at h
 have h1 := Xm (Jp a)
 rw [Jm] at h1
 obtain ⟨cM, eG, eH⟩ := Xx b p8
 have hl := congrArg List.length cM
 rw [List.length_append, List.length_singleton] at hl
 have hx : (Jf b)[(Jf b).length - 1]? = some (top b) := by
  rw [cM, List.getElem?_append_right (by simp)]
  simp
 have h2 := Jfw (β := 18446744073709551616) hx
 rw [Jm] at h2
 have h3 : 18446744073709551616 ^ (Jf a).length <= 18446744073709551616 ^ ((Jf b).length - 1) := Nat.pow_le_pow_right (by omega) (by omega)
 have h4 : 1 * 18446744073709551616 ^ ((Jf b).length - 1) <= top b * 18446744073709551616 ^ ((Jf b).length - 1) := Nat.mul_le_mul_right _ (by omega)
 omega
theorem Jom {a b : Nat} (hl : (Jf a).length = (Jf b).length) (h : (Jf a).drop 1 = (Jf b).drop 1) : Qx (lo a) (lo b) = Qx a b := by
 by_cases ha : a = 0
 ·subst ha
  have hb : b = 0 := by
   rcases Nat.eq_zero_or_pos b with h0 | h0
   ·exact h0
   have := Xo b (by omega)
   rw [<- hl, Qh] at this
   simp at this
  subst hb
  rfl
 have hb : b ≠ 0 := by
  intro hb
  subst hb
  have := Xo a ha
  rw [hl, Qh] at this
  simp at this
 have e1 := Jm a
 have e2 := Jm b
 rw [Jba a ha, Xw] at e1
 rw [Jba b hb, Xw] at e2
 rw [<- List.drop_one] at e1 e2
 rw [<- h] at e2
 unfold Qx
 by_cases h1 : lo a < lo b
 ·rw [if_pos h1, if_pos (by omega)]
 rw [if_neg h1]
 by_cases h2 : lo b < lo a
 ·rw [if_pos h2, if_neg (by omega), if_pos (by omega)]
 rw [if_neg h2, if_neg (by omega), if_neg (by omega)]
def Jou (w : World) (a b : Nat) (wr : World) : Prop := Blk wr w.heap.size 61 #[.int .u64 (lo a : Int), .string (mo a)] /\ Blk wr (w.heap.size + 1) 61 #[.int .u64 (lo b : Int), .string (mo b)] /\ Below w.heap.size w wr
theorem Zt (a b : Nat) (w : World) (ha : Je a <= 1125899906842624) (hb : Je b <= 1125899906842624) : Calls Tryz.prog 119 #[Jh a, Jh b] w (Ret (.int .i64 (Qx a b)) w) := by
 have dE := Vc a ha
 have dF := Vc b hb
 have bD := Vj a
 have bE := Vj b
 unfold Jh
 obtain ⟨b0, b1, hB, hZ⟩ := bx2 w 61 #[.int .u64 (lo a : Int), .string (mo a)] 61 #[.int .u64 (lo b : Int), .string (mo b)]
 by_cases aJ : (mo a).size = (mo b).size
 ·obtain ⟨L, hL⟩ : ∃ L, (Jf a).length - 1 = L := ⟨_, rfl⟩
  have aQ : (Jf b).length - 1 = L := by omega
  have cN : (mo a).size = 8 * L := by omega
  have y9 : (mo b).size = 8 * L := by omega
  have eI : L <= 17592186044416 := by omega
  have o8 : (Jf a).length = (Jf b).length \/ L = 0 := by omega
  have dG : (((mo a).size : Int) != ((mo b).size : Int)) = false := by rw [aJ]; simp
  have HS := lh (And.intro cN (And.intro y9 (And.intro hL (And.intro aQ o8))))
  clear bD bE aJ hL aQ cN y9 o8
  have dH : ((mo a).size : Int) - 8 = 8 * (L : Int) - 8 := by have := HS.out.1; omega
  go_enter Tryz.func119, Tryz.ntmps119
  go_wp2_with fail
  generalize ((w.alloc (.cells #[.int .u64 (lo a : Int), .string (mo a)] 61)).alloc (.cells #[.int .u64 (lo b : Int), .string (mo b)] 61)) = W at *
  clear dH
  go_loopw [5] (fun i wr => ∃ k : Nat, k <= L /\ i = .int .i64 (8 * (k : Int) - 8) /\ Jou w a b wr /\ Hid ((Jf a).drop (k + 1) = (Jf b).drop (k + 1))) (fun i _ => (intOf i + 8).toNat)
  case atStart =>
   refine ⟨L, Nat.le_refl _, rfl, ⟨b0, b1, hB⟩, ?_⟩
   show _ = _
   have := HS.out
   rw [List.drop_of_length_le (by omega), List.drop_of_length_le (by omega)]
  case round =>
   obtain ⟨k, hk, rfl, ⟨c0, c1, bF⟩, HK⟩ := hrel
   obtain ⟨e8, e9⟩ := c0.c2; obtain ⟨j0, j6⟩ := c1.c2
   by_cases h0 : k = 0
   ·subst h0
    go_wp2_with fail
    refine (Jcw (lo a) (lo b) _).mono ?_
    rintro e w1 ⟨rfl, rfl⟩
    have e : Qx (lo a) (lo b) = Qx a b := by
     rcases HS.out.2.2.2.2 with h1 | h1
     ·exact Jom h1 HK.out
     have h2 := HS.out
     have cK : a < 18446744073709551616 := by
      rcases Nat.lt_or_ge a 18446744073709551616 with h3 | h3
      ·exact h3
      have := Ye a (by omega)
      omega
     have s9 : b < 18446744073709551616 := by
      rcases Nat.lt_or_ge b 18446744073709551616 with h3 | h3
      ·exact h3
      have := Ye b (by omega)
      omega
     rw [Ju a cK, Ju b s9]
    rw [e]
    clear e
    go_wp2
    go_ret
    exact ⟨rfl, bF⟩
   obtain ⟨j, rfl⟩ : ∃ j, k = j + 1 := ⟨k - 1, by omega⟩
   have hq := HS.out
   obtain ⟨x, hx⟩ : ∃ x, (Jf a)[j + 1]? = some x := ⟨_, List.getElem?_eq_getElem (by omega)⟩
   obtain ⟨y, hy⟩ : ∃ y, (Jf b)[j + 1]? = some y := ⟨_, List.getElem?_eq_getElem (by omega)⟩
   have aW := Kp a x (List.mem_of_getElem? hx)
   have dI := Kp b y (List.mem_of_getElem? hy)
   have dJ : ∀ w, (Instr.slice 9 (.string (mo a)) (some (.int .i64 (8 * (j : Int)))) none none).run Tryz.prog w = .ok (.string ((mo a).extract (8 * j) (mo a).size)) w := fun w => by
    have := Uc (P := Tryz.prog) 9 Tryz.underlying9 (mo a) .i64 (8 * (j : Int)) (by omega) (by omega) w
    rw [this, show (8 * (j : Int)).toNat = 8 * j from by omega]
   have dK : ∀ w, (Instr.slice 9 (.string (mo b)) (some (.int .i64 (8 * (j : Int)))) none none).run Tryz.prog w = .ok (.string ((mo b).extract (8 * j) (mo b).size)) w := fun w => by
    have := Uc (P := Tryz.prog) 9 Tryz.underlying9 (mo b) .i64 (8 * (j : Int)) (by omega) (by omega) w
    rw [this, show (8 * (j : Int)).toNat = 8 * j from by omega]
   obtain ⟨rA, aK⟩ := Jf6 a (j + 1) x (by omega) hx
   obtain ⟨rB, aL⟩ := Jf6 b (j + 1) y (by omega) hy
   rw [Nat.add_sub_cancel] at aK aL
   have aA : ((mo a).extract (8 * j) (mo a).size).data.toList = leB x ++ rA := by
    rw [Lib.extract_data, aK, List.take_of_length_le]
    have h5 := congrArg List.length aK
    rw [List.length_drop, <- Lib.size_eq] at h5
    omega
   have aB : ((mo b).extract (8 * j) (mo b).size).data.toList = leB y ++ rB := by
    rw [Lib.extract_data, aL, List.take_of_length_le]
    have h5 := congrArg List.length aL
    rw [List.length_drop, <- Lib.size_eq] at h5
    omega
   have HEA := lh aA
   have HEB := lh aB
   have HXY := lh (And.intro hx hy)
   generalize (mo a).extract (8 * j) (mo a).size = sA at *
   generalize (mo b).extract (8 * j) (mo b).size = sB at *
   clear aA aB hx hy aK aL hq
   rw [show (8 * ((j + 1 : Nat) : Int) - 8) = 8 * (j : Int) from by omega]
   have eJ : (0 : Int) <= 8 * (j : Int) := by omega
   have eK : (8 : Int) * (j : Int) <= 140737488355328 := by omega
   have eL : IntKind.i64.wrap (8 * (j : Int)) = 8 * (j : Int) := IntWalk.i64_in _ (by omega)
   go_wp2_with fail
   go_quiet (first | (go_at_call_of 150 (Value.string sA); refine Calls.quiet_of (Uf sA x rA aW HEA.out _)) | (go_at_call_of 150 (Value.string sB); refine Calls.quiet_of (Uf sB y rB dI HEB.out _)))
   have o8 : (Jf a).length = (Jf b).length := by have := HS.out; omega
   have HLEN := lh o8
   clear o8
   by_cases dL : x = y
   ·subst dL
    have bG : ((x : Int) != (x : Int)) = false := by simp
    go_wp2
    refine ⟨⟨j, by omega, by go_num, ⟨c0.drewN _, c1.drewN _, Jy bF _⟩, ?_⟩, by simp [intOf]; omega⟩
    show _ = _
    have h1 := HXY.out
    rw [List.drop_eq_getElem_cons (List.getElem?_eq_some_iff.1 h1.1).1, List.drop_eq_getElem_cons (List.getElem?_eq_some_iff.1 h1.2).1, (List.getElem?_eq_some_iff.1 h1.1).2, (List.getElem?_eq_some_iff.1 h1.2).2, HK.out]
   have bG : ((x : Int) != (y : Int)) = true := by simp [bne_iff_ne]; omega
   have e : Qx x y = Qx a b := by
    have h1 := HXY.out
    rcases Nat.lt_or_ge x y with h2 | h2
    ·have h3 := Jcq (Jp a) (Jp b) (by omega) h1.1 h1.2 HK.out h2
     rw [Jm, Jm] at h3
     rw [Zu h2, Zu h3]
    have h3 := Jcq (Jp b) (Jp a) (by omega) h1.2 h1.1 HK.out.symm (show y < x by omega)
    rw [Jm, Jm] at h3
    rw [Uj (show y < x by omega), Uj h3]
   have HE := lh e
   clear e
   go_wp2_with fail
   refine (Jcw x y _).mono ?_
   rintro e w1 ⟨rfl, rfl⟩
   rw [HE.out]
   go_wp2
   go_ret
   exact ⟨rfl, Jy bF _⟩
 rcases Nat.lt_or_ge (mo a).size (mo b).size with cC | hge
 ·have e := Zu (Zc (a := a) (b := b) (by omega))
  rw [e]
  have h1 : (((mo a).size : Int) != ((mo b).size : Int)) = true := by simp [bne_iff_ne]; omega
  have h2 : ((mo a).size : Int) < ((mo b).size : Int) := by omega
  clear bD bE e aJ
  go_enter Tryz.func119, Tryz.ntmps119
  go_wp2
  go_ret
  exact ⟨rfl, hB⟩
 have e := Uj (Zc (a := b) (b := a) (by omega))
 rw [e]
 have h1 : (((mo a).size : Int) != ((mo b).size : Int)) = true := by simp [bne_iff_ne]; omega
 have h2 : ¬ ((mo a).size : Int) < ((mo b).size : Int) := by omega
 clear bD bE e aJ
 go_enter Tryz.func119, Tryz.ntmps119
 go_wp2
 go_ret
 exact ⟨rfl, hB⟩
theorem Jew (a b : Nat) (w : World) (ha : a < 18446744073709551616) (hb : b < 18446744073709551616) : Calls Tryz.prog 79 #[Jh a, Jh b] w (Ret (Jh (a * b)) w) := by
 unfold Jh
 obtain ⟨S, hS⟩ : ∃ S, a * b % 18446744073709551616 = S := ⟨_, rfl⟩
 obtain ⟨C, hC⟩ : ∃ C, a * b / 18446744073709551616 = C := ⟨_, rfl⟩
 have q8 : a * b = S + 18446744073709551616 * C := by omega
 have j8 := Tryz.bits_Mul64 a b ha hb
 rw [hS, hC] at j8
 have HMUL := lh j8
 have bH : S < 18446744073709551616 := by omega
 have eM : C < 18446744073709551616 := by
  rw [<- hC, Nat.div_lt_iff_lt_mul (by omega)]
  exact Nat.mul_lt_mul'' ha hb
 clear j8 hS hC
 obtain ⟨N, hN⟩ : ∃ N, a * b = N := ⟨_, rfl⟩
 rw [hN] at q8 ⊢
 have HN := lh q8
 clear q8 hN
 have ea := Qa a ha
 have eb := Qa b hb
 rw [ea, eb, Ju a ha, Ju b hb]
 clear ea eb
 have b2 := Blk.new3 w (.cells #[.int .u64 (a : Int), .string ⟨#[]⟩] 61) (.cells #[.int .u64 (b : Int), .string ⟨#[]⟩] 61) 61 #[.int .u64 0, .string ⟨#[]⟩]
 have hB := Jdf w (.cells #[.int .u64 (a : Int), .string ⟨#[]⟩] 61) (.cells #[.int .u64 (b : Int), .string ⟨#[]⟩] 61) (.cells #[.int .u64 0, .string ⟨#[]⟩] 61)
 have hZ := lh (show (((w.alloc (.cells #[.int .u64 (a : Int), .string ⟨#[]⟩] 61)).alloc (.cells #[.int .u64 (b : Int), .string ⟨#[]⟩] 61)).alloc (.cells #[.int .u64 0, .string ⟨#[]⟩] 61)).heap.size = w.heap.size + 1 + 1 + 1 from by simp)
 by_cases dM : C = 0
 ·subst dM
  have e : N = S := by have := HN.out; omega
  rw [e, Qa S bH, Ju S bH]
  clear e
  go_enter Tryz.func79, Tryz.ntmps79
  go_wp2_with fail
  refine (HMUL.out _).mono ?_
  rintro e w1 ⟨rfl, rfl⟩
  go_wp2
  go_returns
  exact ⟨rfl, Jdf w _ _ _⟩
 have eN : ((C : Int) == 0) = false := by simp; omega
 go_enter Tryz.func79, Tryz.ntmps79
 go_wp2_with fail
 refine (HMUL.out _).mono ?_
 rintro e w1 ⟨rfl, rfl⟩
 go_wp2_with fail
 generalize ((w.alloc (.cells #[.int .u64 (a : Int), .string ⟨#[]⟩] 61)).alloc (.cells #[.int .u64 (b : Int), .string ⟨#[]⟩] 61)).alloc (.cells #[.int .u64 0, .string ⟨#[]⟩] 61) = W at *
 have j7 := (Row.new W 59 Jk [S, C]).reads
 rw [hZ.out] at j7
 refine (Qe _ 2 2 _ [S, C] _ j7 (by simp; have := hZ.out; omega) (Dig.cons bH (Dig.cons (by omega) Dig.nil)) (by omega) (by omega)).mono ?_
 rintro e w1 ⟨rfl, s9⟩
 have e : dv 18446744073709551616 [S, C] = N := by
  simp only [dv]
  have := HN.out
  omega
 rw [e]
 have s9 := Ja (Jb W _) s9
 (try clear bI bJ bK bL aC aD); obtain ⟨b2, bI, bJ, bK, bL, aC, aD⟩ := b2.zf2 s9
 have dN := Ja hB s9
 clear e j7
 unfold Jh
 go_wp2
 refine bodyPost_ret (v := .agg #[.int .u64 (lo N : Int), .string (mo N)]) (by simp [results, Tryz.results79, go_sem, aC, aD]) rfl ?_
 exact ⟨rfl, Za dN (by omega) _ _⟩
theorem Jh0 (a b : Nat) (w : World) (q8 : ¬ (a < 18446744073709551616 /\ b < 18446744073709551616)) (ha : Je a <= 1099511627776) (hb : Je b <= 1099511627776) : Calls Tryz.prog 79 #[Jh a, Jh b] w (Ret (Jh (a * b)) w) := by
 have dE := Qu a ha
 have dF := Qu b hb
 have hc : (¬ (mo a).toList = [] /\ (mo a).toList.isEmpty = false) \/ ((mo a).toList = [] /\ (mo a).toList.isEmpty = true /\ ¬ (mo b).toList = [] /\ (mo b).toList.isEmpty = false) := by
  by_cases h : a < 18446744073709551616
  ·have h1 := Kt a h
   exact .inr ⟨h1.1, h1.2, Ka b (fun h2 => q8 ⟨h, h2⟩)⟩
  exact .inl (Ka a h)
 unfold Jh
 obtain ⟨b0, b1, b2, hB, hZ⟩ := bx3 w 61 #[.int .u64 (lo a : Int), .string (mo a)] 61 #[.int .u64 (lo b : Int), .string (mo b)] 61 #[.int .u64 0, .string ⟨#[]⟩]
 have dO := Jp a
 have dP := Jp b
 have HVA := lh (And.intro (Jm a) (Jm b))
 go_enter Tryz.func79, Tryz.ntmps79
 rcases hc with ⟨x9, y8⟩ | ⟨x9, y8, eO, eP⟩
 all_goals
  go_wp2_with fail
  generalize (((w.alloc (.cells #[.int .u64 (lo a : Int), .string (mo a)] 61)).alloc (.cells #[.int .u64 (lo b : Int), .string (mo b)] 61)).alloc (.cells #[.int .u64 0, .string ⟨#[]⟩] 61)) = W at *
  obtain ⟨dQ, dR⟩ := b0.c2; obtain ⟨dS, dT⟩ := b1.c2
  have c0 := b0.drew
  have c1 := b1.drew
  have c2 := b2.drew
  have eQ := neA w.heap.size
  have hn2 := neB w.heap.size
  go_region_held3 (fun w' => w'.cell? ⟨w.heap.size, 0, none⟩ = some (.int .u64 (lo a : Int)) /\ w'.cell? ⟨w.heap.size, 1, none⟩ = some (.string (mo a)) /\ w'.cell? ⟨w.heap.size + 1, 0, none⟩ = some (.int .u64 (lo b : Int)) /\ w'.cell? ⟨w.heap.size + 1, 1, none⟩ = some (.string (mo b))) (go_keep) (first | (go_at_call_of 127 (Value.agg #[.int .u64 (lo a : Int), .string (mo a)]); refine (Xz a _ (by omega) (by omega)).mono ?_; rintro e wa ⟨va, rfl, aM⟩; have bM := aM.2.1; obtain ⟨Aa, ca, rfl, eR, _⟩ := aM.1.form; (try clear e8 e9); obtain ⟨c0, e8, e9⟩ := c0.zc2 bM; (try clear j0 j6); obtain ⟨c1, j0, j6⟩ := c1.zc2 bM; (try clear j9 o0); obtain ⟨c2, j9, o0⟩ := c2.zc2 bM) | (go_at_call_of 127 (Value.agg #[.int .u64 (lo b : Int), .string (mo b)]); refine (Xz b _ (by omega) (by omega)).mono ?_; rintro e wb ⟨vb, rfl, aN⟩; have bN := aN.2.1; obtain ⟨Ab, cb, rfl, eS, _⟩ := aN.1.form; (try clear e8 e9); obtain ⟨c0, e8, e9⟩ := c0.zc2 bN; (try clear j0 j6); obtain ⟨c1, j0, j6⟩ := c1.zc2 bN; (try clear j9 o0); obtain ⟨c2, j9, o0⟩ := c2.zc2 bN) | (go_at_call 126; (first | have hT := Two.ab aM aN | have hT := Two.ba aN aM); refine (Jgk _ _ _ _ _ _ _ _ (Jf a) (Jf b) _ (Own.reads hT.1) (Own.reads hT.2.1) zd zd (by omega) (by omega) dO dP).mono ?_; rintro e wm ⟨gm, lm, rfl, dU, cO, dV, dW, aO, hgm⟩; (try clear e8 e9); obtain ⟨c0, e8, e9⟩ := c0.zc2 aO; (try clear j0 j6); obtain ⟨c1, j0, j6⟩ := c1.zc2 aO; (try clear j9 o0); obtain ⟨c2, j9, o0⟩ := c2.zc2 aO) | (go_at_call 125; have cP := cO.reads; rw [dU] at cP; refine (Qe _ _ _ _ lm _ cP cO.lt dV (by omega) zd).mono ?_; rintro e wf ⟨rfl, aP⟩; rw [dW, HVA.out.1, HVA.out.2]; unfold Jh; (try clear e8 e9 bO bP bQ bR); obtain ⟨c0, e8, e9, bO, bP, bQ, bR⟩ := c0.zf2 aP; (try clear j0 j6 bS bT bU bV); obtain ⟨c1, j0, j6, bS, bT, bU, bV⟩ := c1.zf2 aP; (try clear j9 o0 bW bX aE aF); obtain ⟨c2, j9, o0, bW, bX, aE, aF⟩ := c2.zf2 aP))
  all_goals
   go_wp2
   refine bodyPost_ret (v := .agg #[.int .u64 (lo (a * b) : Int), .string (mo (a * b))]) (by simp [results, Tryz.results79, go_sem, aE, aF]) rfl ?_
   exact ⟨rfl, Za (Ja (Ja (Ja hB hT.2.2.1) aO) aP) (by omega) _ _⟩
theorem Jgl (a b : Nat) (w : World) (ha : Je a <= 1099511627776) (hb : Je b <= 1099511627776) : Calls Tryz.prog 79 #[Jh a, Jh b] w (Ret (Jh (a * b)) w) := by
 by_cases h : a < 18446744073709551616 /\ b < 18446744073709551616
 ·exact Jew a b w h.1 h.2
 exact Jh0 a b w h ha hb
