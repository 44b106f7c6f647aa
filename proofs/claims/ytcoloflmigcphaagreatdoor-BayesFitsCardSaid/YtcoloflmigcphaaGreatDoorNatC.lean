import Derived.Test.YtcoloflmigcphaaGreatDoorNatB
import Derived.Deep.QuietTactic
import Derived.BigQuiet
namespace Go.Proofs.YtcoloflmigcphaaGreatDoor
set_option maxRecDepth 100000
set_option maxHeartbeats 1000000
open Go.RowKit
set_option linter.all false
theorem Jc (z : Int) (h0 : 0 <= z) (h1 : z < 18446744073709551616) : IntKind.u64.wrap z = z := by
 simp only [IntKind.wrap, IntKind.bits, IntKind.signed]
 simp
 omega
def Jn1 (w : World) (N len : Nat) (e : Ending) (w' : World) : Prop :=
 ∃ (g : Nat) (l : List Nat), e = .returned (.slice (some ⟨g, 0, none⟩) len len) /\ l.length = len /\ Row w' g 35 Jh l /\ Dig 18446744073709551616 l /\ dv 18446744073709551616 l = N /\ Below w.heap.size w w' /\ w.heap.size <= g
def Jae (w : World) (g len N : Nat) (wr : World) : Prop :=
 ∃ l : List Nat, l.length = len /\ Row wr g 35 Jh l /\ Dig 18446744073709551616 l /\ dv 18446744073709551616 l = N /\ Below w.heap.size w wr
def Jjd (w : World) (g len N : Nat) (k c top : Nat) (wr : World) : Prop :=
 ∃ l : List Nat, l.length = len /\ Row wr g 35 Jh l /\ Dig 18446744073709551616 l /\ dv 18446744073709551616 l + c * 18446744073709551616 ^ k = N /\ dv 18446744073709551616 (l.drop top) = 0 /\ Below w.heap.size w wr
theorem Jmf {m n x c hi lo s1 c1 s2 c2 : Nat} (h1 : m * n / 18446744073709551616 = hi) (h2 : m * n % 18446744073709551616 = lo) (h3 : (lo + x) % 18446744073709551616 = s1) (h4 : (lo + x) / 18446744073709551616 = c1) (h5 : (s1 + c) % 18446744073709551616 = s2) (h6 : (s1 + c) / 18446744073709551616 = c2) :
  s2 + 18446744073709551616 * (hi + c1 + c2) = x + m * n + c := by
 omega
theorem Jfa (AX AY : Option Addr) (p q cX cY BX BY : Nat) (lX lY : List Nat) (w : World) (hX : Reads w BX 1 AX p (lX.map Jh)) (hY : Reads w BY 1 AY q (lY.map Jh)) (dC : BX <= w.heap.size) (dD : BY <= w.heap.size) (hp : p <= 8796093022208) (hq : q <= 8796093022208)
  (cF : Dig 18446744073709551616 lX) (cG : Dig 18446744073709551616 lY) :
  Calls Tryz.prog 128 #[.slice AX p cX, .slice AY q cY] w (Jn1 w (dv 18446744073709551616 lX * dv 18446744073709551616 lY) (p + q)) := by
 have cH := hX.lenf
 have cI := hY.lenf
 have cJ := Qh (P := Tryz.prog) Jh 0 157 35 8 Tryz.underlying157 Tryz.infoU64 rfl .i64 .i64 (p + q) (by omega) (by omega)
 obtain ⟨L, hL⟩ : ∃ L, p + q = L := ⟨_, rfl⟩
 have eG : (p : Int) + (q : Int) = (L : Int) := by omega
 rw [hL] at cJ ⊢
 have HL := lh (And.intro cH (And.intro cI hL))
 clear cH cI
 have eH : p <= L := by omega
 have aW : L <= 17592186044416 := by omega
 clear hL
 go_enter Tryz.func128, Tryz.ntmps128
 go_wp2_with fail
 clear cJ
 have j9 := Row.rep w 35 Jh 0 L
 have fL := Jb w (.cells (Array.replicate L (Jh 0)) 35)
 obtain ⟨g, hg⟩ : ∃ g, w.heap.size = g := ⟨_, rfl⟩
 have HG := lh hg
 rw [hg] at j9
 rw [hg]
 have aX : w.heap.size <= g := by omega
 clear hg
 go_loopw [6, 7, 8, 23] (fun _ _ _ i wr => ∃ k : Nat, k <= p /\ i = .int .i64 k /\ Jae w g L (dv 18446744073709551616 (lX.take k) * dv 18446744073709551616 lY) wr) (fun _ _ _ i _ => p - (intOf i).toNat)
 case atStart => exact ⟨0, Nat.zero_le _, rfl, _, by simp, j9, Dig.rep (by omega) _, by rw [Yx]; simp [dv], fL⟩
 case round =>
  obtain ⟨i, hi, rfl, l0, aY, aM, aN, y9, s9⟩ := hrel
  clear j9 fL
  by_cases cK : i < p
  ·have aZ := hX.below (s9.mono dC)
   obtain ⟨ad, m, hA, fJ, hm, bA⟩ := aZ.atf cK
   have cL := cF.get hm
   have cN := Jv (β := 18446744073709551616) hm
   have aA : dv 18446744073709551616 (l0.drop (i + q)) = 0 := by
    apply Kg aN (by omega)
    rw [y9, Nat.pow_add]
    have h1 := Xm (cF.take i)
    have h2 := Xm cG
    rw [List.length_take, HL.out.1, Nat.min_eq_left (by omega)] at h1
    rw [HL.out.2.1] at h2
    exact Nat.mul_lt_mul'' h1 h2
   have HV0 := lh (And.intro y9 (And.intro aY (And.intro cN hm)))
   unfold Jh at bA
   have eI : (i : Int) < (p : Int) := by omega
   clear y9 aY cN hm
   subst hA
   go_wp2_with fail
   obtain ⟨wo, cO⟩ : ∃ wo : World, wo = wr := ⟨_, rfl⟩
   rw [<- cO] at s9 aM aZ bA ⊢
   clear cO
   go_loopw [8, 9, 10, 11, 12, 13, 14, 30] (fun c _ _ _ _ _ _ j wr => ∃ t c' : Nat, t <= q /\ c' < 18446744073709551616 /\ j = .int .i64 t /\ c = .int .u64 c' /\ Jjd w g L (dv 18446744073709551616 (lX.take i) * dv 18446744073709551616 lY + m * dv 18446744073709551616 (lY.take t) * 18446744073709551616 ^ i) (i + t) c' (i + q) wr) (fun _ _ _ _ _ _ _ j _ => q - (intOf j).toNat)
   case atStart =>
    exact ⟨0, 0, Nat.zero_le _, by omega, rfl, rfl, l0, HV0.out.2.1, aM, aN, by rw [HV0.out.1]; simp [dv], aA, s9⟩
   case round =>
    obtain ⟨t, c, ht, cP, rfl, rfl, l, hl, hr, hd, hv, aB, hb⟩ := hrel
    clear aM aN aA aZ bA s9
    have HV := lh (And.intro hv (And.intro hl aB))
    clear hv hl aB
    by_cases bB : t < q
    ·have fN := hY.below (hb.mono dD)
     obtain ⟨ad2, n, dE, dF, hn, dG⟩ := fN.atf bB
     have cR := cG.get hn
     have aC := Jv (β := 18446744073709551616) hn
     have fI : i + t < L := by have := HL.out; omega
     obtain ⟨x, hx⟩ : ∃ x, l[i + t]? = some x := ⟨_, List.getElem?_eq_getElem (by rw [HV.out.2.1]; exact fI)⟩
     have bC := hd.get hx
     have bD := hr.cell hx
     have dH := hr.frozen (i + t)
     obtain ⟨aO, bE⟩ : ∃ aO, m * n / 18446744073709551616 = aO := ⟨_, rfl⟩
     obtain ⟨lo', bF⟩ : ∃ lo', m * n % 18446744073709551616 = lo' := ⟨_, rfl⟩
     obtain ⟨s1, bG⟩ : ∃ s1, (lo' + x) % 18446744073709551616 = s1 := ⟨_, rfl⟩
     obtain ⟨c1, aD⟩ : ∃ c1, (lo' + x) / 18446744073709551616 = c1 := ⟨_, rfl⟩
     obtain ⟨s2, bH⟩ : ∃ s2, (s1 + c) % 18446744073709551616 = s2 := ⟨_, rfl⟩
     obtain ⟨c2, aE⟩ : ∃ c2, (s1 + c) / 18446744073709551616 = c2 := ⟨_, rfl⟩
     have p9 := Jmf bE bF bG aD bH aE
     have fO := Jg8 bC cL cR cP p9
     have dI : lo' < 18446744073709551616 := by omega
     have bI : s2 < 18446744073709551616 := by omega
     have dJ : s1 < 18446744073709551616 := by omega
     have bR := Tryz.bits_Mul64 m n cL cR
     rw [bE, bF] at bR
     have cT : ∀ w, (callFunc 140 #[.int .u64 (lo' : Int), .int .u64 (x : Int), .int .u64 0]).run Tryz.prog w = .ok (.value (.tuple #[.int .u64 (s1 : Int), .int .u64 (c1 : Int)])) w := fun w => by
      have := Zo lo' x 0 (by omega) w
      rw [Nat.add_zero, bG, aD] at this
      exact this
     have eJ : ∀ w, (callFunc 140 #[.int .u64 (s1 : Int), .int .u64 (c : Int), .int .u64 0]).run Tryz.prog w = .ok (.value (.tuple #[.int .u64 (s2 : Int), .int .u64 (c2 : Int)])) w := fun w => by
      have := Zo s1 c 0 (by omega) w
      rw [Nat.add_zero, bH, aE] at this
      exact this
     obtain ⟨h1, cU⟩ : ∃ h1, aO + c1 = h1 := ⟨_, rfl⟩
     obtain ⟨C, hC⟩ : ∃ C, h1 + c2 = C := ⟨_, rfl⟩
     rw [cU, hC] at p9 fO
     have eK : IntKind.u64.wrap ((aO : Int) + (c1 : Int)) = (h1 : Int) := by rw [Jc _ (by omega) (by omega)]; omega
     have eL : IntKind.u64.wrap ((h1 : Int) + (c2 : Int)) = (C : Int) := by rw [Jc _ (by omega) (by omega)]; omega
     have o0 := Ky (s := s2) (c' := C) (b := m * n) hx p9 HV.out.1
     have fH : dv 18446744073709551616 (l.set (i + t) s2) + C * 18446744073709551616 ^ (i + (t + 1)) = dv 18446744073709551616 (lX.take i) * dv 18446744073709551616 lY + m * dv 18446744073709551616 (lY.take (t + 1)) * 18446744073709551616 ^ i := by
      rw [<- Nat.add_assoc, o0, aC, Nat.mul_add, Nat.add_mul, Nat.pow_add, Nat.add_assoc]
      congr 2
      rw [Nat.mul_comm (18446744073709551616 ^ i), Nat.mul_assoc, Nat.mul_assoc, Nat.mul_assoc]
     have o9 : Jjd w g L (dv 18446744073709551616 (lX.take i) * dv 18446744073709551616 lY + m * dv 18446744073709551616 (lY.take (t + 1)) * 18446744073709551616 ^ i) (i + (t + 1)) C (i + q) (wr.setCell ⟨g, i + t, none⟩ (Jh s2)) := by
      refine ⟨l.set (i + t) s2, by rw [List.length_set]; exact HV.out.2.1, hr.set_ (i + t) s2, hd.set_ _ bI, fH, ?_, hb.setCell aX _⟩
      rw [List.drop_set_of_lt (by omega)]
      exact HV.out.2.2
     have HFIN := lh o9
     have HMUL := lh bR
     have k1 : ((i : Int) + (t : Int)).toNat = i + t := by omega
     have k2 : (i : Int) + (t : Int) < (L : Int) := by omega
     have k3 : (0 : Int) <= (i : Int) + (t : Int) := by omega
     have k4 : (t : Int) < (q : Int) := by omega
     unfold Jh at bD dG
     clear bE bF bG aD bH aE p9 cU hC o0 fH o9 bR hx hn aC hd hb fN
     subst dE
     go_wp2_with fail
     refine (HMUL.out _).mono ?_
     rintro e w5 ⟨rfl, rfl⟩
     go_wp2
     exact ⟨⟨t + 1, C, by omega, fO, by go_num, rfl, HFIN.out⟩, by simp [intOf]; omega⟩
    obtain rfl : t = q := by omega
    have fI : i + t < L := by have := HL.out; omega
    obtain ⟨x, hx⟩ : ∃ x, l[i + t]? = some x := ⟨_, List.getElem?_eq_getElem (by rw [HV.out.2.1]; exact fI)⟩
    have dK : x = 0 := Jaq (by omega) HV.out.2.2 (k := 0) (by rw [List.getElem?_drop]; exact hx)
    subst dK
    have bD := hr.cell hx
    have dH := hr.frozen (i + t)
    have dL := Yl (β := 18446744073709551616) c hx
    have o0 : dv 18446744073709551616 (l.set (i + t) c) = dv 18446744073709551616 (lX.take (i + 1)) * dv 18446744073709551616 lY := by
     have h1 := HV.out.1
     rw [Qm (l := lY) (by rw [HL.out.2.1]; omega)] at h1
     rw [HV0.out.2.2.1, Nat.add_mul]
     have h2 : m * dv 18446744073709551616 lY * 18446744073709551616 ^ i = m * 18446744073709551616 ^ i * dv 18446744073709551616 lY := by rw [Nat.mul_right_comm]
     omega
    have o9 : Jae w g L (dv 18446744073709551616 (lX.take (i + 1)) * dv 18446744073709551616 lY) (wr.setCell ⟨g, i + t, none⟩ (Jh c)) :=
     ⟨l.set (i + t) c, by rw [List.length_set]; exact HV.out.2.1, hr.set_ (i + t) c, hd.set_ _ cP, o0, hb.setCell aX _⟩
    have HFIN := lh o9
    have k1 : ((i : Int) + (t : Int)).toNat = i + t := by omega
    have k2 : (i : Int) + (t : Int) < (L : Int) := by omega
    have k3 : (0 : Int) <= (i : Int) + (t : Int) := by omega
    have k4 : ¬ (t : Int) < (t : Int) := by omega
    unfold Jh at bD
    clear dL o0 o9 hx hd hb
    go_wp2
    exact ⟨⟨i + 1, by omega, by go_num, HFIN.out⟩, by simp [intOf]; omega⟩
  obtain rfl : i = p := by omega
  rw [List.take_of_length_le (by rw [HL.out.1]; omega)] at y9
  go_wp2
  go_ret
  exact ⟨g, l0, rfl, aY, aM, aN, y9, s9, aX⟩
theorem Zq {a b : Nat} (h : a < b) : Qz a b = -1 := by unfold Qz; rw [if_pos h]
theorem Kh {a b : Nat} (h : b < a) : Qz a b = 1 := by unfold Qz; rw [if_neg (by omega), if_pos h]
theorem Jar (a : Nat) : Qz a a = 0 := by unfold Qz; rw [if_neg (by omega), if_neg (by omega)]
theorem Jbj {β : Nat} {la lb : List Nat} {k x y : Nat} (dM : Dig β la) (eM : Dig β lb) (hβ : 0 < β) (hx : la[k]? = some x) (hy : lb[k]? = some y) (he : la.drop (k + 1) = lb.drop (k + 1)) (h : x < y) : dv β la < dv β lb := by
 have eN : k < la.length := (List.getElem?_eq_some_iff.1 hx).1
 have eO : k < lb.length := (List.getElem?_eq_some_iff.1 hy).1
 have ha := Xd (β := β) (l := la) k (by omega)
 have hb := Xd (β := β) (l := lb) k (by omega)
 rw [Qa hx] at ha
 rw [Qa hy, <- he] at hb
 have h1 := Xm (dM.take k)
 rw [List.length_take, Nat.min_eq_left (by omega)] at h1
 have h2 : β ^ k * (x + 1 + β * dv β (la.drop (k + 1))) <= β ^ k * (y + β * dv β (la.drop (k + 1))) := Nat.mul_le_mul_left _ (by omega)
 rw [show x + 1 + β * dv β (la.drop (k + 1)) = (x + β * dv β (la.drop (k + 1))) + 1 from by omega, Nat.mul_add, Nat.mul_one] at h2
 omega
theorem Xp {a b : Nat} (h : (words a).length < (words b).length) : a < b := by
 have s9 : b ≠ 0 := by
  intro h0
  subst h0
  simp [Qf] at h
 have h1 := Xm (Jl a)
 rw [Ji] at h1
 obtain ⟨fP, eP, eQ⟩ := Xj b s9
 have hl := congrArg List.length fP
 rw [List.length_append, List.length_singleton] at hl
 have hx : (words b)[(words b).length - 1]? = some (top b) := by
  rw [fP, List.getElem?_append_right (by simp)]
  simp
 have h2 := Jek (β := 18446744073709551616) hx
 rw [Ji] at h2
 have h3 : 18446744073709551616 ^ (words a).length <= 18446744073709551616 ^ ((words b).length - 1) := Nat.pow_le_pow_right (by omega) (by omega)
 have h4 : 1 * 18446744073709551616 ^ ((words b).length - 1) <= top b * 18446744073709551616 ^ ((words b).length - 1) := Nat.mul_le_mul_right _ (by omega)
 omega
theorem Jnv {a b : Nat} (hl : (words a).length = (words b).length) (h : (words a).drop 1 = (words b).drop 1) : Qz (lo a) (lo b) = Qz a b := by
 by_cases ha : a = 0
 ·subst ha
  have hb : b = 0 := by
   rcases Nat.eq_zero_or_pos b with h0 | h0
   ·exact h0
   have := Xf b (by omega)
   rw [<- hl, Qf] at this
   simp at this
  subst hb
  rfl
 have hb : b ≠ 0 := by
  intro hb
  subst hb
  have := Xf a ha
  rw [hl, Qf] at this
  simp at this
 have e1 := Ji a
 have e2 := Ji b
 rw [Vw a ha, Xv] at e1
 rw [Vw b hb, Xv] at e2
 rw [<- List.drop_one] at e1 e2
 rw [<- h] at e2
 unfold Qz
 by_cases h1 : lo a < lo b
 ·rw [if_pos h1, if_pos (by omega)]
 rw [if_neg h1]
 by_cases h2 : lo b < lo a
 ·rw [if_pos h2, if_neg (by omega), if_pos (by omega)]
 rw [if_neg h2, if_neg (by omega), if_neg (by omega)]
def Jn4 (w : World) (a b : Nat) (wr : World) : Prop := Blk wr w.heap.size 37 #[.int .u64 (lo a : Int), .string (mo a)] /\ Blk wr (w.heap.size + 1) 37 #[.int .u64 (lo b : Int), .string (mo b)] /\ Below w.heap.size w wr
theorem Zb (a b : Nat) (w : World) (ha : Je a <= 1125899906842624) (hb : Je b <= 1125899906842624) : Calls Tryz.prog 122 #[Jg a, Jg b] w (Ret (.int .i64 (Qz a b)) w) := by
 have dN := Kz a ha
 have dO := Kz b hb
 have bJ := Ui a
 have bK := Ui b
 unfold Jg
 obtain ⟨b0, b1, hB, hZ⟩ := bx2 w 37 #[.int .u64 (lo a : Int), .string (mo a)] 37 #[.int .u64 (lo b : Int), .string (mo b)]
 by_cases aP : (mo a).size = (mo b).size
 ·obtain ⟨L, hL⟩ : ∃ L, (words a).length - 1 = L := ⟨_, rfl⟩
  have aW : (words b).length - 1 = L := by omega
  have cZ : (mo a).size = 8 * L := by omega
  have aF : (mo b).size = 8 * L := by omega
  have eR : L <= 17592186044416 := by omega
  have fG : (words a).length = (words b).length \/ L = 0 := by omega
  have dP : (((mo a).size : Int) != ((mo b).size : Int)) = false := by rw [aP]; simp
  have HS := lh (And.intro cZ (And.intro aF (And.intro hL (And.intro aW fG))))
  clear bJ bK aP hL aW cZ aF fG
  have dQ : ((mo a).size : Int) - 8 = 8 * (L : Int) - 8 := by have := HS.out.1; omega
  go_enter Tryz.func122, Tryz.ntmps122
  go_wp2_with fail
  generalize ((w.alloc (.cells #[.int .u64 (lo a : Int), .string (mo a)] 37)).alloc (.cells #[.int .u64 (lo b : Int), .string (mo b)] 37)) = W at *
  clear dQ
  go_loopw [5] (fun i wr => ∃ k : Nat, k <= L /\ i = .int .i64 (8 * (k : Int) - 8) /\ Jn4 w a b wr /\ Hid ((words a).drop (k + 1) = (words b).drop (k + 1))) (fun i _ => (intOf i + 8).toNat)
  case atStart =>
   refine ⟨L, Nat.le_refl _, rfl, ⟨b0, b1, hB⟩, ?_⟩
   show _ = _
   have := HS.out
   rw [List.drop_of_length_le (by omega), List.drop_of_length_le (by omega)]
  case round =>
   obtain ⟨k, hk, rfl, ⟨c0, c1, bL⟩, HK⟩ := hrel
   obtain ⟨j0, j6⟩ := c0.c2; obtain ⟨j7, j8⟩ := c1.c2
   by_cases h0 : k = 0
   ·subst h0
    go_wp2_with fail
    refine (Jbu (lo a) (lo b) _).mono ?_
    rintro e w1 ⟨rfl, rfl⟩
    have e : Qz (lo a) (lo b) = Qz a b := by
     rcases HS.out.2.2.2.2 with h1 | h1
     ·exact Jnv h1 HK.out
     have h2 := HS.out
     have cT : a < 18446744073709551616 := by
      rcases Nat.lt_or_ge a 18446744073709551616 with h3 | h3
      ·exact h3
      have := Zf a (by omega)
      omega
     have fK : b < 18446744073709551616 := by
      rcases Nat.lt_or_ge b 18446744073709551616 with h3 | h3
      ·exact h3
      have := Zf b (by omega)
      omega
     rw [Jp a cT, Jp b fK]
    rw [e]
    clear e
    go_wp2
    go_ret
    exact ⟨rfl, bL⟩
   obtain ⟨j, rfl⟩ : ∃ j, k = j + 1 := ⟨k - 1, by omega⟩
   have hq := HS.out
   obtain ⟨x, hx⟩ : ∃ x, (words a)[j + 1]? = some x := ⟨_, List.getElem?_eq_getElem (by omega)⟩
   obtain ⟨y, hy⟩ : ∃ y, (words b)[j + 1]? = some y := ⟨_, List.getElem?_eq_getElem (by omega)⟩
   have bC := Yq a x (List.mem_of_getElem? hx)
   have dR := Yq b y (List.mem_of_getElem? hy)
   have dS : ∀ w, (Instr.slice 9 (.string (mo a)) (some (.int .i64 (8 * (j : Int)))) none none).run Tryz.prog w = .ok (.string ((mo a).extract (8 * j) (mo a).size)) w := fun w => by
    have := Kc (P := Tryz.prog) 9 Tryz.underlying9 (mo a) .i64 (8 * (j : Int)) (by omega) (by omega) w
    rw [this, show (8 * (j : Int)).toNat = 8 * j from by omega]
   have dT : ∀ w, (Instr.slice 9 (.string (mo b)) (some (.int .i64 (8 * (j : Int)))) none none).run Tryz.prog w = .ok (.string ((mo b).extract (8 * j) (mo b).size)) w := fun w => by
    have := Kc (P := Tryz.prog) 9 Tryz.underlying9 (mo b) .i64 (8 * (j : Int)) (by omega) (by omega) w
    rw [this, show (8 * (j : Int)).toNat = 8 * j from by omega]
   obtain ⟨rA, aQ⟩ := Jes a (j + 1) x (by omega) hx
   obtain ⟨rB, aR⟩ := Jes b (j + 1) y (by omega) hy
   rw [Nat.add_sub_cancel] at aQ aR
   have aG : ((mo a).extract (8 * j) (mo a).size).data.toList = leB x ++ rA := by
    rw [Lib.extract_data, aQ, List.take_of_length_le]
    have h5 := congrArg List.length aQ
    rw [List.length_drop, <- Lib.size_eq] at h5
    omega
   have aH : ((mo b).extract (8 * j) (mo b).size).data.toList = leB y ++ rB := by
    rw [Lib.extract_data, aR, List.take_of_length_le]
    have h5 := congrArg List.length aR
    rw [List.length_drop, <- Lib.size_eq] at h5
    omega
   have HEA := lh aG
   have HEB := lh aH
   have HXY := lh (And.intro hx hy)
   generalize (mo a).extract (8 * j) (mo a).size = sA at *
   generalize (mo b).extract (8 * j) (mo b).size = sB at *
   clear aG aH hx hy aQ aR hq
   rw [show (8 * ((j + 1 : Nat) : Int) - 8) = 8 * (j : Int) from by omega]
   have eS : (0 : Int) <= 8 * (j : Int) := by omega
   have eT : (8 : Int) * (j : Int) <= 140737488355328 := by omega
   have eU : IntKind.i64.wrap (8 * (j : Int)) = 8 * (j : Int) := IntWalk.i64_in _ (by omega)
   go_wp2_with fail
   go_quiet (first | (go_at_call_of 134 (Value.string sA); refine Calls.quiet_of (Ke sA x rA bC HEA.out _)) | (go_at_call_of 134 (Value.string sB); refine Calls.quiet_of (Ke sB y rB dR HEB.out _)))
   have fG : (words a).length = (words b).length := by have := HS.out; omega
   have HLEN := lh fG
   clear fG
   by_cases dU : x = y
   ·subst dU
    have bM : ((x : Int) != (x : Int)) = false := by simp
    go_wp2
    refine ⟨⟨j, by omega, by go_num, ⟨c0.drewN _, c1.drewN _, Jw bL _⟩, ?_⟩, by simp [intOf]; omega⟩
    show _ = _
    have h1 := HXY.out
    rw [List.drop_eq_getElem_cons (List.getElem?_eq_some_iff.1 h1.1).1, List.drop_eq_getElem_cons (List.getElem?_eq_some_iff.1 h1.2).1, (List.getElem?_eq_some_iff.1 h1.1).2, (List.getElem?_eq_some_iff.1 h1.2).2, HK.out]
   have bM : ((x : Int) != (y : Int)) = true := by simp [bne_iff_ne]; omega
   have e : Qz x y = Qz a b := by
    have h1 := HXY.out
    rcases Nat.lt_or_ge x y with h2 | h2
    ·have h3 := Jbj (Jl a) (Jl b) (by omega) h1.1 h1.2 HK.out h2
     rw [Ji, Ji] at h3
     rw [Zq h2, Zq h3]
    have h3 := Jbj (Jl b) (Jl a) (by omega) h1.2 h1.1 HK.out.symm (show y < x by omega)
    rw [Ji, Ji] at h3
    rw [Kh (show y < x by omega), Kh h3]
   have HE := lh e
   clear e
   go_wp2_with fail
   refine (Jbu x y _).mono ?_
   rintro e w1 ⟨rfl, rfl⟩
   rw [HE.out]
   go_wp2
   go_ret
   exact ⟨rfl, Jw bL _⟩
 rcases Nat.lt_or_ge (mo a).size (mo b).size with cK | hge
 ·have e := Zq (Xp (a := a) (b := b) (by omega))
  rw [e]
  have h1 : (((mo a).size : Int) != ((mo b).size : Int)) = true := by simp [bne_iff_ne]; omega
  have h2 : ((mo a).size : Int) < ((mo b).size : Int) := by omega
  clear bJ bK e aP
  go_enter Tryz.func122, Tryz.ntmps122
  go_wp2
  go_ret
  exact ⟨rfl, hB⟩
 have e := Kh (Xp (a := b) (b := a) (by omega))
 rw [e]
 have h1 : (((mo a).size : Int) != ((mo b).size : Int)) = true := by simp [bne_iff_ne]; omega
 have h2 : ¬ ((mo a).size : Int) < ((mo b).size : Int) := by omega
 clear bJ bK e aP
 go_enter Tryz.func122, Tryz.ntmps122
 go_wp2
 go_ret
 exact ⟨rfl, hB⟩
theorem Jdm (a b : Nat) (w : World) (ha : a < 18446744073709551616) (hb : b < 18446744073709551616) : Calls Tryz.prog 86 #[Jg a, Jg b] w (Ret (Jg (a * b)) w) := by
 unfold Jg
 obtain ⟨S, hS⟩ : ∃ S, a * b % 18446744073709551616 = S := ⟨_, rfl⟩
 obtain ⟨C, hC⟩ : ∃ C, a * b / 18446744073709551616 = C := ⟨_, rfl⟩
 have fJ : a * b = S + 18446744073709551616 * C := by omega
 have bR := Tryz.bits_Mul64 a b ha hb
 rw [hS, hC] at bR
 have HMUL := lh bR
 have bN : S < 18446744073709551616 := by omega
 have eV : C < 18446744073709551616 := by
  rw [<- hC, Nat.div_lt_iff_lt_mul (by omega)]
  exact Nat.mul_lt_mul'' ha hb
 clear bR hS hC
 obtain ⟨N, hN⟩ : ∃ N, a * b = N := ⟨_, rfl⟩
 rw [hN] at fJ ⊢
 have HN := lh fJ
 clear fJ hN
 have ea := Jy a ha
 have eb := Jy b hb
 rw [ea, eb, Jp a ha, Jp b hb]
 clear ea eb
 have b2 := Blk.new3 w (.cells #[.int .u64 (a : Int), .string ⟨#[]⟩] 37) (.cells #[.int .u64 (b : Int), .string ⟨#[]⟩] 37) 37 #[.int .u64 0, .string ⟨#[]⟩]
 have hB := Jcc w (.cells #[.int .u64 (a : Int), .string ⟨#[]⟩] 37) (.cells #[.int .u64 (b : Int), .string ⟨#[]⟩] 37) (.cells #[.int .u64 0, .string ⟨#[]⟩] 37)
 have hZ := lh (show (((w.alloc (.cells #[.int .u64 (a : Int), .string ⟨#[]⟩] 37)).alloc (.cells #[.int .u64 (b : Int), .string ⟨#[]⟩] 37)).alloc (.cells #[.int .u64 0, .string ⟨#[]⟩] 37)).heap.size = w.heap.size + 1 + 1 + 1 from by simp)
 by_cases dV : C = 0
 ·subst dV
  have e : N = S := by have := HN.out; omega
  rw [e, Jy S bN, Jp S bN]
  clear e
  go_enter Tryz.func86, Tryz.ntmps86
  go_wp2_with fail
  refine (HMUL.out _).mono ?_
  rintro e w1 ⟨rfl, rfl⟩
  go_wp2
  go_returns
  exact ⟨rfl, Jcc w _ _ _⟩
 have eW : ((C : Int) == 0) = false := by simp; omega
 go_enter Tryz.func86, Tryz.ntmps86
 go_wp2_with fail
 refine (HMUL.out _).mono ?_
 rintro e w1 ⟨rfl, rfl⟩
 go_wp2_with fail
 generalize ((w.alloc (.cells #[.int .u64 (a : Int), .string ⟨#[]⟩] 37)).alloc (.cells #[.int .u64 (b : Int), .string ⟨#[]⟩] 37)).alloc (.cells #[.int .u64 0, .string ⟨#[]⟩] 37) = W at *
 have j9 := (Row.new W 35 Jh [S, C]).reads
 rw [hZ.out] at j9
 refine (Qe _ 2 2 _ [S, C] _ j9 (by simp; have := hZ.out; omega) (Dig.cons bN (Dig.cons (by omega) Dig.nil)) (by omega) (by omega)).mono ?_
 rintro e w1 ⟨rfl, fK⟩
 have e : dv 18446744073709551616 [S, C] = N := by
  simp only [dv]
  have := HN.out
  omega
 rw [e]
 have fK := Ja (Jb W _) fK
 (try clear bO bP bQ bS aI aJ); obtain ⟨b2, bO, bP, bQ, bS, aI, aJ⟩ := b2.zf2 fK
 have dW := Ja hB fK
 clear e j9
 unfold Jg
 go_wp2
 refine bodyPost_ret (v := .agg #[.int .u64 (lo N : Int), .string (mo N)]) (by simp [results, Tryz.results86, go_sem, aI, aJ]) rfl ?_
 exact ⟨rfl, Xo dW (by omega) _ _⟩
theorem Jgp (a b : Nat) (w : World) (fJ : ¬ (a < 18446744073709551616 /\ b < 18446744073709551616)) (ha : Je a <= 1099511627776) (hb : Je b <= 1099511627776) : Calls Tryz.prog 86 #[Jg a, Jg b] w (Ret (Jg (a * b)) w) := by
 have dN := Qq a ha
 have dO := Qq b hb
 have hc : (¬ (mo a).toList = [] /\ (mo a).toList.isEmpty = false) \/ ((mo a).toList = [] /\ (mo a).toList.isEmpty = true /\ ¬ (mo b).toList = [] /\ (mo b).toList.isEmpty = false) := by
  by_cases h : a < 18446744073709551616
  ·have h1 := Yu a h
   exact .inr ⟨h1.1, h1.2, Ya b (fun h2 => fJ ⟨h, h2⟩)⟩
  exact .inl (Ya a h)
 unfold Jg
 obtain ⟨b0, b1, b2, hB, hZ⟩ := bx3 w 37 #[.int .u64 (lo a : Int), .string (mo a)] 37 #[.int .u64 (lo b : Int), .string (mo b)] 37 #[.int .u64 0, .string ⟨#[]⟩]
 have dX := Jl a
 have dY := Jl b
 have HVA := lh (And.intro (Ji a) (Ji b))
 go_enter Tryz.func86, Tryz.ntmps86
 rcases hc with ⟨aD, aE⟩ | ⟨aD, aE, eX, eY⟩
 all_goals
  go_wp2_with fail
  generalize (((w.alloc (.cells #[.int .u64 (lo a : Int), .string (mo a)] 37)).alloc (.cells #[.int .u64 (lo b : Int), .string (mo b)] 37)).alloc (.cells #[.int .u64 0, .string ⟨#[]⟩] 37)) = W at *
  obtain ⟨dZ, eA⟩ := b0.c2; obtain ⟨eB, eC⟩ := b1.c2
  have c0 := b0.drew
  have c1 := b1.drew
  have c2 := b2.drew
  have eZ := neA w.heap.size
  have fA := neB w.heap.size
  go_region_held3 (fun w' => w'.cell? ⟨w.heap.size, 0, none⟩ = some (.int .u64 (lo a : Int)) /\ w'.cell? ⟨w.heap.size, 1, none⟩ = some (.string (mo a)) /\ w'.cell? ⟨w.heap.size + 1, 0, none⟩ = some (.int .u64 (lo b : Int)) /\ w'.cell? ⟨w.heap.size + 1, 1, none⟩ = some (.string (mo b))) (go_keep) (first | (go_at_call_of 129 (Value.agg #[.int .u64 (lo a : Int), .string (mo a)]); refine (Xl a _ (by omega) (by omega)).mono ?_; rintro e wa ⟨va, rfl, aS⟩; have bT := aS.2.1; obtain ⟨Aa, ca, rfl, fB, _⟩ := aS.1.form; (try clear j0 j6); obtain ⟨c0, j0, j6⟩ := c0.zc2 bT; (try clear j7 j8); obtain ⟨c1, j7, j8⟩ := c1.zc2 bT; (try clear fE fF); obtain ⟨c2, fE, fF⟩ := c2.zc2 bT) | (go_at_call_of 129 (Value.agg #[.int .u64 (lo b : Int), .string (mo b)]); refine (Xl b _ (by omega) (by omega)).mono ?_; rintro e wb ⟨vb, rfl, aT⟩; have bU := aT.2.1; obtain ⟨Ab, cb, rfl, fC, _⟩ := aT.1.form; (try clear j0 j6); obtain ⟨c0, j0, j6⟩ := c0.zc2 bU; (try clear j7 j8); obtain ⟨c1, j7, j8⟩ := c1.zc2 bU; (try clear fE fF); obtain ⟨c2, fE, fF⟩ := c2.zc2 bU) | (go_at_call 128; (first | have hT := Two.ab aS aT | have hT := Two.ba aT aS); refine (Jfa _ _ _ _ _ _ _ _ (words a) (words b) _ (Own.reads hT.1) (Own.reads hT.2.1) zd zd (by omega) (by omega) dX dY).mono ?_; rintro e wm ⟨gm, lm, rfl, eD, dA, eE, eF, aU, fD⟩; (try clear j0 j6); obtain ⟨c0, j0, j6⟩ := c0.zc2 aU; (try clear j7 j8); obtain ⟨c1, j7, j8⟩ := c1.zc2 aU; (try clear fE fF); obtain ⟨c2, fE, fF⟩ := c2.zc2 aU) | (go_at_call 127; have dB := dA.reads; rw [eD] at dB; refine (Qe _ _ _ _ lm _ dB dA.lt eE (by omega) zd).mono ?_; rintro e wf ⟨rfl, aV⟩; rw [eF, HVA.out.1, HVA.out.2]; unfold Jg; (try clear j0 j6 bV bW bX bY); obtain ⟨c0, j0, j6, bV, bW, bX, bY⟩ := c0.zf2 aV; (try clear j7 j8 bZ cA cB fM); obtain ⟨c1, j7, j8, bZ, cA, cB, fM⟩ := c1.zf2 aV; (try clear fE fF cD cE aK aL); obtain ⟨c2, fE, fF, cD, cE, aK, aL⟩ := c2.zf2 aV))
  all_goals
   go_wp2
   refine bodyPost_ret (v := .agg #[.int .u64 (lo (a * b) : Int), .string (mo (a * b))]) (by simp [results, Tryz.results86, go_sem, aK, aL]) rfl ?_
   exact ⟨rfl, Xo (Ja (Ja (Ja hB hT.2.2.1) aU) aV) (by omega) _ _⟩
theorem Jfb (a b : Nat) (w : World) (ha : Je a <= 1099511627776) (hb : Je b <= 1099511627776) : Calls Tryz.prog 86 #[Jg a, Jg b] w (Ret (Jg (a * b)) w) := by
 by_cases h : a < 18446744073709551616 /\ b < 18446744073709551616
 ·exact Jdm a b w h.1 h.2
 exact Jgp a b w h ha hb
