import Derived.Test.YtecnjlcfoobepaaGreatDoorNatB
import Derived.Deep.QuietTactic
import Derived.BigQuiet
namespace Go.Proofs.YtecnjlcfoobepaaGreatDoor
set_option maxRecDepth 100000
set_option maxHeartbeats 1000000
open Go.RowKit
set_option linter.all false
theorem Jd (z : Int) (h0 : 0 <= z) (h1 : z < 18446744073709551616) : IntKind.u64.wrap z = z := by
 simp only [IntKind.wrap, IntKind.bits, IntKind.signed]
 simp
 omega
def Js0 (w : World) (N len : Nat) (e : Ending) (w' : World) : Prop :=
 ∃ (g : Nat) (l : List Nat), e = .returned (.slice (some ⟨g, 0, none⟩) len len) /\ l.length = len /\ Row w' g 50 Jm l /\ Dig 18446744073709551616 l /\ dv 18446744073709551616 l = N /\ Below w.heap.size w w' /\ w.heap.size <= g
def Jb5 (w : World) (g len N : Nat) (wr : World) : Prop :=
 ∃ l : List Nat, l.length = len /\ Row wr g 50 Jm l /\ Dig 18446744073709551616 l /\ dv 18446744073709551616 l = N /\ Below w.heap.size w wr
def Jmr (w : World) (g len N : Nat) (k c top : Nat) (wr : World) : Prop :=
 ∃ l : List Nat, l.length = len /\ Row wr g 50 Jm l /\ Dig 18446744073709551616 l /\ dv 18446744073709551616 l + c * 18446744073709551616 ^ k = N /\ dv 18446744073709551616 (l.drop top) = 0 /\ Below w.heap.size w wr
theorem Jq8 {m n x c hi lo s1 c1 s2 c2 : Nat} (h1 : m * n / 18446744073709551616 = hi) (h2 : m * n % 18446744073709551616 = lo) (h3 : (lo + x) % 18446744073709551616 = s1) (h4 : (lo + x) / 18446744073709551616 = c1) (h5 : (s1 + c) % 18446744073709551616 = s2) (h6 : (s1 + c) / 18446744073709551616 = c2) :
  s2 + 18446744073709551616 * (hi + c1 + c2) = x + m * n + c := by
 omega
theorem Jhk (AX AY : Option Addr) (p q cX cY BX BY : Nat) (lX lY : List Nat) (w : World) (hX : Reads w BX 1 AX p (lX.map Jm)) (hY : Reads w BY 1 AY q (lY.map Jm)) (dG : BX <= w.heap.size) (dH : BY <= w.heap.size) (hp : p <= 8796093022208) (hq : q <= 8796093022208)
  (cK : Dig 18446744073709551616 lX) (cL : Dig 18446744073709551616 lY) :
  Calls Tryz.prog 121 #[.slice AX p cX, .slice AY q cY] w (Js0 w (dv 18446744073709551616 lX * dv 18446744073709551616 lY) (p + q)) := by
 have cM := hX.lenf
 have cN := hY.lenf
 have cO := Ql (P := Tryz.prog) Jm 0 170 50 8 Tryz.underlying170 Tryz.infoU64 rfl .i64 .i64 (p + q) (by omega) (by omega)
 obtain ⟨L, hL⟩ : ∃ L, p + q = L := ⟨_, rfl⟩
 have eK : (p : Int) + (q : Int) = (L : Int) := by omega
 rw [hL] at cO ⊢
 have HL := lh (And.intro cM (And.intro cN hL))
 clear cM cN
 have eL : p <= L := by omega
 have bC : L <= 17592186044416 := by omega
 clear hL
 go_enter Tryz.func121, Tryz.ntmps121
 go_wp2_with fail
 clear cO
 have o0 := Row.rep w 50 Jm 0 L
 have aE := Jb w (.cells (Array.replicate L (Jm 0)) 50)
 obtain ⟨g, hg⟩ : ∃ g, w.heap.size = g := ⟨_, rfl⟩
 have HG := lh hg
 rw [hg] at o0
 rw [hg]
 have bD : w.heap.size <= g := by omega
 clear hg
 go_loopw [6, 7, 8, 23] (fun _ _ _ i wr => ∃ k : Nat, k <= p /\ i = .int .i64 k /\ Jb5 w g L (dv 18446744073709551616 (lX.take k) * dv 18446744073709551616 lY) wr) (fun _ _ _ i _ => p - (intOf i).toNat)
 case atStart => exact ⟨0, Nat.zero_le _, rfl, _, by simp, o0, Dig.rep (by omega) _, by rw [Kj]; simp [dv], aE⟩
 case round =>
  obtain ⟨i, hi, rfl, l0, bE, aS, aT, aF, aA⟩ := hrel
  clear o0 aE
  by_cases cP : i < p
  ·have bF := hX.below (aA.mono dG)
   obtain ⟨ad, m, hA, aC, hm, bG⟩ := bF.atf cP
   have cQ := cK.get hm
   have cR := Jv (β := 18446744073709551616) hm
   have aG : dv 18446744073709551616 (l0.drop (i + q)) = 0 := by
    apply Km aT (by omega)
    rw [aF, Nat.pow_add]
    have h1 := Xn (cK.take i)
    have h2 := Xn cL
    rw [List.length_take, HL.out.1, Nat.min_eq_left (by omega)] at h1
    rw [HL.out.2.1] at h2
    exact Nat.mul_lt_mul'' h1 h2
   have HV0 := lh (And.intro aF (And.intro bE (And.intro cR hm)))
   unfold Jm at bG
   have eM : (i : Int) < (p : Int) := by omega
   clear aF bE cR hm
   subst hA
   go_wp2_with fail
   obtain ⟨wo, cS⟩ : ∃ wo : World, wo = wr := ⟨_, rfl⟩
   rw [<- cS] at aA aS bF bG ⊢
   clear cS
   go_loopw [8, 9, 10, 11, 12, 13, 14, 30] (fun c _ _ _ _ _ _ j wr => ∃ t c' : Nat, t <= q /\ c' < 18446744073709551616 /\ j = .int .i64 t /\ c = .int .u64 c' /\ Jmr w g L (dv 18446744073709551616 (lX.take i) * dv 18446744073709551616 lY + m * dv 18446744073709551616 (lY.take t) * 18446744073709551616 ^ i) (i + t) c' (i + q) wr) (fun _ _ _ _ _ _ _ j _ => q - (intOf j).toNat)
   case atStart =>
    exact ⟨0, 0, Nat.zero_le _, by omega, rfl, rfl, l0, HV0.out.2.1, aS, aT, by rw [HV0.out.1]; simp [dv], aG, aA⟩
   case round =>
    obtain ⟨t, c, ht, cT, rfl, rfl, l, hl, hr, hd, hv, aH, hb⟩ := hrel
    clear aS aT aG bF bG aA
    have HV := lh (And.intro hv (And.intro hl aH))
    clear hv hl aH
    by_cases bH : t < q
    ·have cU := hY.below (hb.mono dH)
     obtain ⟨ad2, n, dI, dJ, hn, dK⟩ := cU.atf bH
     have cV := cL.get hn
     have aI := Jv (β := 18446744073709551616) hn
     have aB : i + t < L := by have := HL.out; omega
     obtain ⟨x, hx⟩ : ∃ x, l[i + t]? = some x := ⟨_, List.getElem?_eq_getElem (by rw [HV.out.2.1]; exact aB)⟩
     have bI := hd.get hx
     have bJ := hr.cell hx
     have dL := hr.frozen (i + t)
     obtain ⟨aU, bK⟩ : ∃ aU, m * n / 18446744073709551616 = aU := ⟨_, rfl⟩
     obtain ⟨lo', bL⟩ : ∃ lo', m * n % 18446744073709551616 = lo' := ⟨_, rfl⟩
     obtain ⟨s1, bM⟩ : ∃ s1, (lo' + x) % 18446744073709551616 = s1 := ⟨_, rfl⟩
     obtain ⟨c1, aJ⟩ : ∃ c1, (lo' + x) / 18446744073709551616 = c1 := ⟨_, rfl⟩
     obtain ⟨s2, bN⟩ : ∃ s2, (s1 + c) % 18446744073709551616 = s2 := ⟨_, rfl⟩
     obtain ⟨c2, aK⟩ : ∃ c2, (s1 + c) / 18446744073709551616 = c2 := ⟨_, rfl⟩
     have y8 := Jq8 bK bL bM aJ bN aK
     have cZ := Jj0 bI cQ cV cT y8
     have dM : lo' < 18446744073709551616 := by omega
     have bO : s2 < 18446744073709551616 := by omega
     have dN : s1 < 18446744073709551616 := by omega
     have o5 := Tryz.bits_Mul64 m n cQ cV
     rw [bK, bL] at o5
     have dA : ∀ w, (callFunc 155 #[.int .u64 (lo' : Int), .int .u64 (x : Int), .int .u64 0]).run Tryz.prog w = .ok (.value (.tuple #[.int .u64 (s1 : Int), .int .u64 (c1 : Int)])) w := fun w => by
      have := Yh lo' x 0 (by omega) w
      rw [Nat.add_zero, bM, aJ] at this
      exact this
     have eO : ∀ w, (callFunc 155 #[.int .u64 (s1 : Int), .int .u64 (c : Int), .int .u64 0]).run Tryz.prog w = .ok (.value (.tuple #[.int .u64 (s2 : Int), .int .u64 (c2 : Int)])) w := fun w => by
      have := Yh s1 c 0 (by omega) w
      rw [Nat.add_zero, bN, aK] at this
      exact this
     obtain ⟨h1, dB⟩ : ∃ h1, aU + c1 = h1 := ⟨_, rfl⟩
     obtain ⟨C, hC⟩ : ∃ C, h1 + c2 = C := ⟨_, rfl⟩
     rw [dB, hC] at y8 cZ
     have eP : IntKind.u64.wrap ((aU : Int) + (c1 : Int)) = (h1 : Int) := by rw [Jd _ (by omega) (by omega)]; omega
     have eQ : IntKind.u64.wrap ((h1 : Int) + (c2 : Int)) = (C : Int) := by rw [Jd _ (by omega) (by omega)]; omega
     have t8 := Uc (s := s2) (c' := C) (b := m * n) hx y8 HV.out.1
     have y9 : dv 18446744073709551616 (l.set (i + t) s2) + C * 18446744073709551616 ^ (i + (t + 1)) = dv 18446744073709551616 (lX.take i) * dv 18446744073709551616 lY + m * dv 18446744073709551616 (lY.take (t + 1)) * 18446744073709551616 ^ i := by
      rw [<- Nat.add_assoc, t8, aI, Nat.mul_add, Nat.add_mul, Nat.pow_add, Nat.add_assoc]
      congr 2
      rw [Nat.mul_comm (18446744073709551616 ^ i), Nat.mul_assoc, Nat.mul_assoc, Nat.mul_assoc]
     have x8 : Jmr w g L (dv 18446744073709551616 (lX.take i) * dv 18446744073709551616 lY + m * dv 18446744073709551616 (lY.take (t + 1)) * 18446744073709551616 ^ i) (i + (t + 1)) C (i + q) (wr.setCell ⟨g, i + t, none⟩ (Jm s2)) := by
      refine ⟨l.set (i + t) s2, by rw [List.length_set]; exact HV.out.2.1, hr.set_ (i + t) s2, hd.set_ _ bO, y9, ?_, hb.setCell bD _⟩
      rw [List.drop_set_of_lt (by omega)]
      exact HV.out.2.2
     have HFIN := lh x8
     have HMUL := lh o5
     have k1 : ((i : Int) + (t : Int)).toNat = i + t := by omega
     have k2 : (i : Int) + (t : Int) < (L : Int) := by omega
     have k3 : (0 : Int) <= (i : Int) + (t : Int) := by omega
     have k4 : (t : Int) < (q : Int) := by omega
     unfold Jm at bJ dK
     clear bK bL bM aJ bN aK y8 dB hC t8 y9 x8 o5 hx hn aI hd hb cU
     subst dI
     go_wp2_with fail
     refine (HMUL.out _).mono ?_
     rintro e w5 ⟨rfl, rfl⟩
     go_wp2
     exact ⟨⟨t + 1, C, by omega, cZ, by go_num, rfl, HFIN.out⟩, by simp [intOf]; omega⟩
    obtain rfl : t = q := by omega
    have aB : i + t < L := by have := HL.out; omega
    obtain ⟨x, hx⟩ : ∃ x, l[i + t]? = some x := ⟨_, List.getElem?_eq_getElem (by rw [HV.out.2.1]; exact aB)⟩
    have dO : x = 0 := Jbj (by omega) HV.out.2.2 (k := 0) (by rw [List.getElem?_drop]; exact hx)
    subst dO
    have bJ := hr.cell hx
    have dL := hr.frozen (i + t)
    have dP := Yv (β := 18446744073709551616) c hx
    have t8 : dv 18446744073709551616 (l.set (i + t) c) = dv 18446744073709551616 (lX.take (i + 1)) * dv 18446744073709551616 lY := by
     have h1 := HV.out.1
     rw [Qw (l := lY) (by rw [HL.out.2.1]; omega)] at h1
     rw [HV0.out.2.2.1, Nat.add_mul]
     have h2 : m * dv 18446744073709551616 lY * 18446744073709551616 ^ i = m * 18446744073709551616 ^ i * dv 18446744073709551616 lY := by rw [Nat.mul_right_comm]
     omega
    have x8 : Jb5 w g L (dv 18446744073709551616 (lX.take (i + 1)) * dv 18446744073709551616 lY) (wr.setCell ⟨g, i + t, none⟩ (Jm c)) :=
     ⟨l.set (i + t) c, by rw [List.length_set]; exact HV.out.2.1, hr.set_ (i + t) c, hd.set_ _ cT, t8, hb.setCell bD _⟩
    have HFIN := lh x8
    have k1 : ((i : Int) + (t : Int)).toNat = i + t := by omega
    have k2 : (i : Int) + (t : Int) < (L : Int) := by omega
    have k3 : (0 : Int) <= (i : Int) + (t : Int) := by omega
    have k4 : ¬ (t : Int) < (t : Int) := by omega
    unfold Jm at bJ
    clear dP t8 x8 hx hd hb
    go_wp2
    exact ⟨⟨i + 1, by omega, by go_num, HFIN.out⟩, by simp [intOf]; omega⟩
  obtain rfl : i = p := by omega
  rw [List.take_of_length_le (by rw [HL.out.1]; omega)] at aF
  go_wp2
  go_ret
  exact ⟨g, l0, rfl, bE, aS, aT, aF, aA, bD⟩
theorem Zs {a b : Nat} (h : a < b) : Xd a b = -1 := by unfold Xd; rw [if_pos h]
theorem Uk {a b : Nat} (h : b < a) : Xd a b = 1 := by unfold Xd; rw [if_neg (by omega), if_pos h]
theorem Jcm (a : Nat) : Xd a a = 0 := by unfold Xd; rw [if_neg (by omega), if_neg (by omega)]
theorem Jc8 {β : Nat} {la lb : List Nat} {k x y : Nat} (dQ : Dig β la) (eR : Dig β lb) (hβ : 0 < β) (hx : la[k]? = some x) (hy : lb[k]? = some y) (he : la.drop (k + 1) = lb.drop (k + 1)) (h : x < y) : dv β la < dv β lb := by
 have eT : k < la.length := (List.getElem?_eq_some_iff.1 hx).1
 have eU : k < lb.length := (List.getElem?_eq_some_iff.1 hy).1
 have ha := Xm (β := β) (l := la) k (by omega)
 have hb := Xm (β := β) (l := lb) k (by omega)
 rw [Qd hx] at ha
 rw [Qd hy, <- he] at hb
 have h1 := Xn (dQ.take k)
 rw [List.length_take, Nat.min_eq_left (by omega)] at h1
 have h2 : β ^ k * (x + 1 + β * dv β (la.drop (k + 1))) <= β ^ k * (y + β * dv β (la.drop (k + 1))) := Nat.mul_le_mul_left _ (by omega)
 rw [show x + 1 + β * dv β (la.drop (k + 1)) = (x + β * dv β (la.drop (k + 1))) + 1 from by omega, Nat.mul_add, Nat.mul_one] at h2
 omega
theorem Za {a b : Nat} (h : (Jg a).length < (Jg b).length) : a < b := by
 have aA : b ≠ 0 := by
  intro h0
  subst h0
  simp [Qp] at h
 have h1 := Xn (Js a)
 rw [Jp] at h1
 obtain ⟨dC, eV, eX⟩ := Xw b aA
 have hl := congrArg List.length dC
 rw [List.length_append, List.length_singleton] at hl
 have hx : (Jg b)[(Jg b).length - 1]? = some (top b) := by
  rw [dC, List.getElem?_append_right (by simp)]
  simp
 have h2 := Jgo (β := 18446744073709551616) hx
 rw [Jp] at h2
 have h3 : 18446744073709551616 ^ (Jg a).length <= 18446744073709551616 ^ ((Jg b).length - 1) := Nat.pow_le_pow_right (by omega) (by omega)
 have h4 : 1 * 18446744073709551616 ^ ((Jg b).length - 1) <= top b * 18446744073709551616 ^ ((Jg b).length - 1) := Nat.mul_le_mul_right _ (by omega)
 omega
theorem Jsw {a b : Nat} (hl : (Jg a).length = (Jg b).length) (h : (Jg a).drop 1 = (Jg b).drop 1) : Xd (lo a) (lo b) = Xd a b := by
 by_cases ha : a = 0
 ·subst ha
  have hb : b = 0 := by
   rcases Nat.eq_zero_or_pos b with h0 | h0
   ·exact h0
   have := Xp b (by omega)
   rw [<- hl, Qp] at this
   simp at this
  subst hb
  rfl
 have hb : b ≠ 0 := by
  intro hb
  subst hb
  have := Xp a ha
  rw [hl, Qp] at this
  simp at this
 have e1 := Jp a
 have e2 := Jp b
 rw [Jbr a ha, Xv] at e1
 rw [Jbr b hb, Xv] at e2
 rw [<- List.drop_one] at e1 e2
 rw [<- h] at e2
 unfold Xd
 by_cases h1 : lo a < lo b
 ·rw [if_pos h1, if_pos (by omega)]
 rw [if_neg h1]
 by_cases h2 : lo b < lo a
 ·rw [if_pos h2, if_neg (by omega), if_pos (by omega)]
 rw [if_neg h2, if_neg (by omega), if_neg (by omega)]
def Js3 (w : World) (a b : Nat) (wr : World) : Prop := Blk wr w.heap.size 52 #[.int .u64 (lo a : Int), .string (mo a)] /\ Blk wr (w.heap.size + 1) 52 #[.int .u64 (lo b : Int), .string (mo b)] /\ Below w.heap.size w wr
theorem Zr (a b : Nat) (w : World) (ha : Je a <= 1125899906842624) (hb : Je b <= 1125899906842624) : Calls Tryz.prog 102 #[Jj a, Jj b] w (Ret (.int .i64 (Xd a b)) w) := by
 have dR := Vj a ha
 have dS := Vj b hb
 have bP := Vp a
 have bQ := Vp b
 unfold Jj
 obtain ⟨b0, b1, hB, hZ⟩ := bx2 w 52 #[.int .u64 (lo a : Int), .string (mo a)] 52 #[.int .u64 (lo b : Int), .string (mo b)]
 by_cases aV : (mo a).size = (mo b).size
 ·obtain ⟨L, hL⟩ : ∃ L, (Jg a).length - 1 = L := ⟨_, rfl⟩
  have bC : (Jg b).length - 1 = L := by omega
  have dD : (mo a).size = 8 * L := by omega
  have aL : (mo b).size = 8 * L := by omega
  have eY : L <= 17592186044416 := by omega
  have x9 : (Jg a).length = (Jg b).length \/ L = 0 := by omega
  have dT : (((mo a).size : Int) != ((mo b).size : Int)) = false := by rw [aV]; simp
  have HS := lh (And.intro dD (And.intro aL (And.intro hL (And.intro bC x9))))
  clear bP bQ aV hL bC dD aL x9
  have dU : ((mo a).size : Int) - 8 = 8 * (L : Int) - 8 := by have := HS.out.1; omega
  go_enter Tryz.func102, Tryz.ntmps102
  go_wp2_with fail
  generalize ((w.alloc (.cells #[.int .u64 (lo a : Int), .string (mo a)] 52)).alloc (.cells #[.int .u64 (lo b : Int), .string (mo b)] 52)) = W at *
  clear dU
  go_loopw [5] (fun i wr => ∃ k : Nat, k <= L /\ i = .int .i64 (8 * (k : Int) - 8) /\ Js3 w a b wr /\ Hid ((Jg a).drop (k + 1) = (Jg b).drop (k + 1))) (fun i _ => (intOf i + 8).toNat)
  case atStart =>
   refine ⟨L, Nat.le_refl _, rfl, ⟨b0, b1, hB⟩, ?_⟩
   show _ = _
   have := HS.out
   rw [List.drop_of_length_le (by omega), List.drop_of_length_le (by omega)]
  case round =>
   obtain ⟨k, hk, rfl, ⟨c0, c1, bR⟩, HK⟩ := hrel
   obtain ⟨j6, j7⟩ := c0.c2; obtain ⟨j8, j9⟩ := c1.c2
   by_cases h0 : k = 0
   ·subst h0
    go_wp2_with fail
    refine (Jdj (lo a) (lo b) _).mono ?_
    rintro e w1 ⟨rfl, rfl⟩
    have e : Xd (lo a) (lo b) = Xd a b := by
     rcases HS.out.2.2.2.2 with h1 | h1
     ·exact Jsw h1 HK.out
     have h2 := HS.out
     have dA : a < 18446744073709551616 := by
      rcases Nat.lt_or_ge a 18446744073709551616 with h3 | h3
      ·exact h3
      have := Ya a (by omega)
      omega
     have aD : b < 18446744073709551616 := by
      rcases Nat.lt_or_ge b 18446744073709551616 with h3 | h3
      ·exact h3
      have := Ya b (by omega)
      omega
     rw [Jx a dA, Jx b aD]
    rw [e]
    clear e
    go_wp2
    go_ret
    exact ⟨rfl, bR⟩
   obtain ⟨j, rfl⟩ : ∃ j, k = j + 1 := ⟨k - 1, by omega⟩
   have hq := HS.out
   obtain ⟨x, hx⟩ : ∃ x, (Jg a)[j + 1]? = some x := ⟨_, List.getElem?_eq_getElem (by omega)⟩
   obtain ⟨y, hy⟩ : ∃ y, (Jg b)[j + 1]? = some y := ⟨_, List.getElem?_eq_getElem (by omega)⟩
   have bI := Kr a x (List.mem_of_getElem? hx)
   have dV := Kr b y (List.mem_of_getElem? hy)
   have dW : ∀ w, (Instr.slice 9 (.string (mo a)) (some (.int .i64 (8 * (j : Int)))) none none).run Tryz.prog w = .ok (.string ((mo a).extract (8 * j) (mo a).size)) w := fun w => by
    have := Ug (P := Tryz.prog) 9 Tryz.underlying9 (mo a) .i64 (8 * (j : Int)) (by omega) (by omega) w
    rw [this, show (8 * (j : Int)).toNat = 8 * j from by omega]
   have dX : ∀ w, (Instr.slice 9 (.string (mo b)) (some (.int .i64 (8 * (j : Int)))) none none).run Tryz.prog w = .ok (.string ((mo b).extract (8 * j) (mo b).size)) w := fun w => by
    have := Ug (P := Tryz.prog) 9 Tryz.underlying9 (mo b) .i64 (8 * (j : Int)) (by omega) (by omega) w
    rw [this, show (8 * (j : Int)).toNat = 8 * j from by omega]
   obtain ⟨rA, aW⟩ := Jg0 a (j + 1) x (by omega) hx
   obtain ⟨rB, aX⟩ := Jg0 b (j + 1) y (by omega) hy
   rw [Nat.add_sub_cancel] at aW aX
   have aM : ((mo a).extract (8 * j) (mo a).size).data.toList = leB x ++ rA := by
    rw [Lib.extract_data, aW, List.take_of_length_le]
    have h5 := congrArg List.length aW
    rw [List.length_drop, <- Lib.size_eq] at h5
    omega
   have aN : ((mo b).extract (8 * j) (mo b).size).data.toList = leB y ++ rB := by
    rw [Lib.extract_data, aX, List.take_of_length_le]
    have h5 := congrArg List.length aX
    rw [List.length_drop, <- Lib.size_eq] at h5
    omega
   have HEA := lh aM
   have HEB := lh aN
   have HXY := lh (And.intro hx hy)
   generalize (mo a).extract (8 * j) (mo a).size = sA at *
   generalize (mo b).extract (8 * j) (mo b).size = sB at *
   clear aM aN hx hy aW aX hq
   rw [show (8 * ((j + 1 : Nat) : Int) - 8) = 8 * (j : Int) from by omega]
   have eZ : (0 : Int) <= 8 * (j : Int) := by omega
   have fA : (8 : Int) * (j : Int) <= 140737488355328 := by omega
   have fB : IntKind.i64.wrap (8 * (j : Int)) = 8 * (j : Int) := IntWalk.i64_in _ (by omega)
   go_wp2_with fail
   go_quiet (first | (go_at_call_of 134 (Value.string sA); refine Calls.quiet_of (Ui sA x rA bI HEA.out _)) | (go_at_call_of 134 (Value.string sB); refine Calls.quiet_of (Ui sB y rB dV HEB.out _)))
   have x9 : (Jg a).length = (Jg b).length := by have := HS.out; omega
   have HLEN := lh x9
   clear x9
   by_cases dY : x = y
   ·subst dY
    have bS : ((x : Int) != (x : Int)) = false := by simp
    go_wp2
    refine ⟨⟨j, by omega, by go_num, ⟨c0.drewN _, c1.drewN _, Jz bR _⟩, ?_⟩, by simp [intOf]; omega⟩
    show _ = _
    have h1 := HXY.out
    rw [List.drop_eq_getElem_cons (List.getElem?_eq_some_iff.1 h1.1).1, List.drop_eq_getElem_cons (List.getElem?_eq_some_iff.1 h1.2).1, (List.getElem?_eq_some_iff.1 h1.1).2, (List.getElem?_eq_some_iff.1 h1.2).2, HK.out]
   have bS : ((x : Int) != (y : Int)) = true := by simp [bne_iff_ne]; omega
   have e : Xd x y = Xd a b := by
    have h1 := HXY.out
    rcases Nat.lt_or_ge x y with h2 | h2
    ·have h3 := Jc8 (Js a) (Js b) (by omega) h1.1 h1.2 HK.out h2
     rw [Jp, Jp] at h3
     rw [Zs h2, Zs h3]
    have h3 := Jc8 (Js b) (Js a) (by omega) h1.2 h1.1 HK.out.symm (show y < x by omega)
    rw [Jp, Jp] at h3
    rw [Uk (show y < x by omega), Uk h3]
   have HE := lh e
   clear e
   go_wp2_with fail
   refine (Jdj x y _).mono ?_
   rintro e w1 ⟨rfl, rfl⟩
   rw [HE.out]
   go_wp2
   go_ret
   exact ⟨rfl, Jz bR _⟩
 rcases Nat.lt_or_ge (mo a).size (mo b).size with cP | hge
 ·have e := Zs (Za (a := a) (b := b) (by omega))
  rw [e]
  have h1 : (((mo a).size : Int) != ((mo b).size : Int)) = true := by simp [bne_iff_ne]; omega
  have h2 : ((mo a).size : Int) < ((mo b).size : Int) := by omega
  clear bP bQ e aV
  go_enter Tryz.func102, Tryz.ntmps102
  go_wp2
  go_ret
  exact ⟨rfl, hB⟩
 have e := Uk (Za (a := b) (b := a) (by omega))
 rw [e]
 have h1 : (((mo a).size : Int) != ((mo b).size : Int)) = true := by simp [bne_iff_ne]; omega
 have h2 : ¬ ((mo a).size : Int) < ((mo b).size : Int) := by omega
 clear bP bQ e aV
 go_enter Tryz.func102, Tryz.ntmps102
 go_wp2
 go_ret
 exact ⟨rfl, hB⟩
theorem Jfu (a b : Nat) (w : World) (ha : a < 18446744073709551616) (hb : b < 18446744073709551616) : Calls Tryz.prog 83 #[Jj a, Jj b] w (Ret (Jj (a * b)) w) := by
 unfold Jj
 obtain ⟨S, hS⟩ : ∃ S, a * b % 18446744073709551616 = S := ⟨_, rfl⟩
 obtain ⟨C, hC⟩ : ∃ C, a * b / 18446744073709551616 = C := ⟨_, rfl⟩
 have aC : a * b = S + 18446744073709551616 * C := by omega
 have o5 := Tryz.bits_Mul64 a b ha hb
 rw [hS, hC] at o5
 have HMUL := lh o5
 have bT : S < 18446744073709551616 := by omega
 have fC : C < 18446744073709551616 := by
  rw [<- hC, Nat.div_lt_iff_lt_mul (by omega)]
  exact Nat.mul_lt_mul'' ha hb
 clear o5 hS hC
 obtain ⟨N, hN⟩ : ∃ N, a * b = N := ⟨_, rfl⟩
 rw [hN] at aC ⊢
 have HN := lh aC
 clear aC hN
 have ea := Qc a ha
 have eb := Qc b hb
 rw [ea, eb, Jx a ha, Jx b hb]
 clear ea eb
 have b2 := Blk.new3 w (.cells #[.int .u64 (a : Int), .string ⟨#[]⟩] 52) (.cells #[.int .u64 (b : Int), .string ⟨#[]⟩] 52) 52 #[.int .u64 0, .string ⟨#[]⟩]
 have hB := Jdy w (.cells #[.int .u64 (a : Int), .string ⟨#[]⟩] 52) (.cells #[.int .u64 (b : Int), .string ⟨#[]⟩] 52) (.cells #[.int .u64 0, .string ⟨#[]⟩] 52)
 have hZ := lh (show (((w.alloc (.cells #[.int .u64 (a : Int), .string ⟨#[]⟩] 52)).alloc (.cells #[.int .u64 (b : Int), .string ⟨#[]⟩] 52)).alloc (.cells #[.int .u64 0, .string ⟨#[]⟩] 52)).heap.size = w.heap.size + 1 + 1 + 1 from by simp)
 by_cases dZ : C = 0
 ·subst dZ
  have e : N = S := by have := HN.out; omega
  rw [e, Qc S bT, Jx S bT]
  clear e
  go_enter Tryz.func83, Tryz.ntmps83
  go_wp2_with fail
  refine (HMUL.out _).mono ?_
  rintro e w1 ⟨rfl, rfl⟩
  go_wp2
  go_returns
  exact ⟨rfl, Jdy w _ _ _⟩
 have fD : ((C : Int) == 0) = false := by simp; omega
 go_enter Tryz.func83, Tryz.ntmps83
 go_wp2_with fail
 refine (HMUL.out _).mono ?_
 rintro e w1 ⟨rfl, rfl⟩
 go_wp2_with fail
 generalize ((w.alloc (.cells #[.int .u64 (a : Int), .string ⟨#[]⟩] 52)).alloc (.cells #[.int .u64 (b : Int), .string ⟨#[]⟩] 52)).alloc (.cells #[.int .u64 0, .string ⟨#[]⟩] 52) = W at *
 have o0 := (Row.new W 50 Jm [S, C]).reads
 rw [hZ.out] at o0
 refine (Qk _ 2 2 _ [S, C] _ o0 (by simp; have := hZ.out; omega) (Dig.cons bT (Dig.cons (by omega) Dig.nil)) (by omega) (by omega)).mono ?_
 rintro e w1 ⟨rfl, aD⟩
 have e : dv 18446744073709551616 [S, C] = N := by
  simp only [dv]
  have := HN.out
  omega
 rw [e]
 have aD := Ja (Jb W _) aD
 (try clear bU bV bW bX aO aP); obtain ⟨b2, bU, bV, bW, bX, aO, aP⟩ := b2.zf2 aD
 have eA := Ja hB aD
 clear e o0
 unfold Jj
 go_wp2
 refine bodyPost_ret (v := .agg #[.int .u64 (lo N : Int), .string (mo N)]) (by simp [results, Tryz.results83, go_sem, aO, aP]) rfl ?_
 exact ⟨rfl, Xz eA (by omega) _ _⟩
theorem Ji5 (a b : Nat) (w : World) (aC : ¬ (a < 18446744073709551616 /\ b < 18446744073709551616)) (ha : Je a <= 1099511627776) (hb : Je b <= 1099511627776) : Calls Tryz.prog 83 #[Jj a, Jj b] w (Ret (Jj (a * b)) w) := by
 have dR := Qz a ha
 have dS := Qz b hb
 have hc : (¬ (mo a).toList = [] /\ (mo a).toList.isEmpty = false) \/ ((mo a).toList = [] /\ (mo a).toList.isEmpty = true /\ ¬ (mo b).toList = [] /\ (mo b).toList.isEmpty = false) := by
  by_cases h : a < 18446744073709551616
  ·have h1 := Kt a h
   exact .inr ⟨h1.1, h1.2, Yz b (fun h2 => aC ⟨h, h2⟩)⟩
  exact .inl (Yz a h)
 unfold Jj
 obtain ⟨b0, b1, b2, hB, hZ⟩ := bx3 w 52 #[.int .u64 (lo a : Int), .string (mo a)] 52 #[.int .u64 (lo b : Int), .string (mo b)] 52 #[.int .u64 0, .string ⟨#[]⟩]
 have eB := Js a
 have eC := Js b
 have HVA := lh (And.intro (Jp a) (Jp b))
 go_enter Tryz.func83, Tryz.ntmps83
 rcases hc with ⟨aJ, aK⟩ | ⟨aJ, aK, fE, fF⟩
 all_goals
  go_wp2_with fail
  generalize (((w.alloc (.cells #[.int .u64 (lo a : Int), .string (mo a)] 52)).alloc (.cells #[.int .u64 (lo b : Int), .string (mo b)] 52)).alloc (.cells #[.int .u64 0, .string ⟨#[]⟩] 52)) = W at *
  obtain ⟨eD, eE⟩ := b0.c2; obtain ⟨eF, eG⟩ := b1.c2
  have c0 := b0.drew
  have c1 := b1.drew
  have c2 := b2.drew
  have fG := neA w.heap.size
  have fH := neB w.heap.size
  go_region_held3 (fun w' => w'.cell? ⟨w.heap.size, 0, none⟩ = some (.int .u64 (lo a : Int)) /\ w'.cell? ⟨w.heap.size, 1, none⟩ = some (.string (mo a)) /\ w'.cell? ⟨w.heap.size + 1, 0, none⟩ = some (.int .u64 (lo b : Int)) /\ w'.cell? ⟨w.heap.size + 1, 1, none⟩ = some (.string (mo b))) (go_keep) (first | (go_at_call_of 122 (Value.agg #[.int .u64 (lo a : Int), .string (mo a)]); refine (Xx a _ (by omega) (by omega)).mono ?_; rintro e wa ⟨va, rfl, aY⟩; have bY := aY.2.1; obtain ⟨Aa, ca, rfl, fI, _⟩ := aY.1.form; (try clear j6 j7); obtain ⟨c0, j6, j7⟩ := c0.zc2 bY; (try clear j8 j9); obtain ⟨c1, j8, j9⟩ := c1.zc2 bY; (try clear s9 t7); obtain ⟨c2, s9, t7⟩ := c2.zc2 bY) | (go_at_call_of 122 (Value.agg #[.int .u64 (lo b : Int), .string (mo b)]); refine (Xx b _ (by omega) (by omega)).mono ?_; rintro e wb ⟨vb, rfl, aZ⟩; have bZ := aZ.2.1; obtain ⟨Ab, cb, rfl, fJ, _⟩ := aZ.1.form; (try clear j6 j7); obtain ⟨c0, j6, j7⟩ := c0.zc2 bZ; (try clear j8 j9); obtain ⟨c1, j8, j9⟩ := c1.zc2 bZ; (try clear s9 t7); obtain ⟨c2, s9, t7⟩ := c2.zc2 bZ) | (go_at_call 121; (first | have hT := Two.ab aY aZ | have hT := Two.ba aZ aY); refine (Jhk _ _ _ _ _ _ _ _ (Jg a) (Jg b) _ (Own.reads hT.1) (Own.reads hT.2.1) zd zd (by omega) (by omega) eB eC).mono ?_; rintro e wm ⟨gm, lm, rfl, eH, dE, eI, eJ, bA, fK⟩; (try clear j6 j7); obtain ⟨c0, j6, j7⟩ := c0.zc2 bA; (try clear j8 j9); obtain ⟨c1, j8, j9⟩ := c1.zc2 bA; (try clear s9 t7); obtain ⟨c2, s9, t7⟩ := c2.zc2 bA) | (go_at_call 120; have dF := dE.reads; rw [eH] at dF; refine (Qk _ _ _ _ lm _ dF dE.lt eI (by omega) zd).mono ?_; rintro e wf ⟨rfl, bB⟩; rw [eJ, HVA.out.1, HVA.out.2]; unfold Jj; (try clear j6 j7 cA cB cC cD); obtain ⟨c0, j6, j7, cA, cB, cC, cD⟩ := c0.zf2 bB; (try clear j8 j9 cE cF cG cH); obtain ⟨c1, j8, j9, cE, cF, cG, cH⟩ := c1.zf2 bB; (try clear s9 t7 cI cJ aQ aR); obtain ⟨c2, s9, t7, cI, cJ, aQ, aR⟩ := c2.zf2 bB))
  all_goals
   go_wp2
   refine bodyPost_ret (v := .agg #[.int .u64 (lo (a * b) : Int), .string (mo (a * b))]) (by simp [results, Tryz.results83, go_sem, aQ, aR]) rfl ?_
   exact ⟨rfl, Xz (Ja (Ja (Ja hB hT.2.2.1) bA) bB) (by omega) _ _⟩
theorem Jhl (a b : Nat) (w : World) (ha : Je a <= 1099511627776) (hb : Je b <= 1099511627776) : Calls Tryz.prog 83 #[Jj a, Jj b] w (Ret (Jj (a * b)) w) := by
 by_cases h : a < 18446744073709551616 /\ b < 18446744073709551616
 ·exact Jfu a b w h.1 h.2
 exact Ji5 a b w h ha hb
