import Derived.Test.YtecnjlcfoobepaaGreatDoorNatB
import Derived.Deep.QuietTactic
import Derived.BigQuiet
namespace Go.Proofs.YtecnjlcfoobepaaGreatDoor
set_option maxRecDepth 100000
set_option maxHeartbeats 1000000
open Go.RowKit
set_option linter.unusedSimpArgs false
set_option linter.unusedVariables false
theorem wrap_u64_of (z : Int) (h0 : 0 <= z) (h1 : z < 18446744073709551616) : IntKind.u64.wrap z = z := by
 simp only [IntKind.wrap, IntKind.bits, IntKind.signed]
 simp
 omega
def NewW (w : World) (N len : Nat) (e : Ending) (w' : World) : Prop :=
 ∃ (g : Nat) (l : List Nat), e = .returned (.slice (some ⟨g, 0, none⟩) len len) /\ l.length = len /\ Row w' g 50 u64v l /\ Dig 18446744073709551616 l /\ dv 18446744073709551616 l = N /\ Below w.heap.size w w' /\ w.heap.size <= g
def MulRel (w : World) (g len N : Nat) (wr : World) : Prop :=
 ∃ l : List Nat, l.length = len /\ Row wr g 50 u64v l /\ Dig 18446744073709551616 l /\ dv 18446744073709551616 l = N /\ Below w.heap.size w wr
def MulRel2 (w : World) (g len N : Nat) (k c top : Nat) (wr : World) : Prop :=
 ∃ l : List Nat, l.length = len /\ Row wr g 50 u64v l /\ Dig 18446744073709551616 l /\ dv 18446744073709551616 l + c * 18446744073709551616 ^ k = N /\ dv 18446744073709551616 (l.drop top) = 0 /\ Below w.heap.size w wr
theorem mul_key {m n x c hi lo s1 c1 s2 c2 : Nat} (h1 : m * n / 18446744073709551616 = hi) (h2 : m * n % 18446744073709551616 = lo) (h3 : (lo + x) % 18446744073709551616 = s1) (h4 : (lo + x) / 18446744073709551616 = c1) (h5 : (s1 + c) % 18446744073709551616 = s2) (h6 : (s1 + c) / 18446744073709551616 = c2) :
  s2 + 18446744073709551616 * (hi + c1 + c2) = x + m * n + c := by
 omega
theorem nat_mulWords (AX AY : Option Addr) (p q cX cY BX BY : Nat) (lX lY : List Nat) (w : World) (hX : Reads w BX 1 AX p (lX.map u64v)) (hY : Reads w BY 1 AY q (lY.map u64v)) (hBX : BX <= w.heap.size) (hBY : BY <= w.heap.size) (hp : p <= 8796093022208) (hq : q <= 8796093022208)
  (hdX : Dig 18446744073709551616 lX) (hdY : Dig 18446744073709551616 lY) :
  Calls Tryz.prog 121 #[.slice AX p cX, .slice AY q cY] w (NewW w (dv 18446744073709551616 lX * dv 18446744073709551616 lY) (p + q)) := by
 have hlx := hX.lenf
 have hly := hY.lenf
 have hmk := make_row (P := Tryz.prog) u64v 0 170 50 8 Tryz.underlying170 Tryz.infoU64 rfl .i64 .i64 (p + q) (by omega) (by omega)
 obtain ⟨L, hL⟩ : ∃ L, p + q = L := ⟨_, rfl⟩
 have hL2 : (p : Int) + (q : Int) = (L : Int) := by omega
 rw [hL] at hmk ⊢
 have HL := lh (And.intro hlx (And.intro hly hL))
 clear hlx hly
 have hpL : p <= L := by omega
 have hLb : L <= 17592186044416 := by omega
 clear hL
 go_enter Tryz.func121, Tryz.ntmps121
 go_wp2_with fail
 clear hmk
 have hrow := Row.rep w 50 u64v 0 L
 have hbel := balloc1 w (.cells (Array.replicate L (u64v 0)) 50)
 obtain ⟨g, hg⟩ : ∃ g, w.heap.size = g := ⟨_, rfl⟩
 have HG := lh hg
 rw [hg] at hrow
 rw [hg]
 have hgg : w.heap.size <= g := by omega
 clear hg
 go_loopw [6, 7, 8, 23] (fun _ _ _ i wr => ∃ k : Nat, k <= p /\ i = .int .i64 k /\ MulRel w g L (dv 18446744073709551616 (lX.take k) * dv 18446744073709551616 lY) wr) (fun _ _ _ i _ => p - (intOf i).toNat)
 case atStart => exact ⟨0, Nat.zero_le _, rfl, _, by simp, hrow, Dig.rep (by omega) _, by rw [dv_rep]; simp [dv], hbel⟩
 case round =>
  obtain ⟨i, hi, rfl, l0, hl0, hr0, hd0, hv0, hb0⟩ := hrel
  clear hrow hbel
  by_cases hlt : i < p
  ·have hX2 := hX.below (hb0.mono hBX)
   obtain ⟨ad, m, hA, hab, hm, hcm⟩ := hX2.atf hlt
   have hml := hdX.get hm
   have htk := dv_take_succ (β := 18446744073709551616) hm
   have hlow : dv 18446744073709551616 (l0.drop (i + q)) = 0 := by
    apply dv_high hd0 (by omega)
    rw [hv0, Nat.pow_add]
    have h1 := dv_lt (hdX.take i)
    have h2 := dv_lt hdY
    rw [List.length_take, HL.out.1, Nat.min_eq_left (by omega)] at h1
    rw [HL.out.2.1] at h2
    exact Nat.mul_lt_mul'' h1 h2
   have HV0 := lh (And.intro hv0 (And.intro hl0 (And.intro htk hm)))
   unfold u64v at hcm
   have hi2 : (i : Int) < (p : Int) := by omega
   clear hv0 hl0 htk hm
   subst hA
   go_wp2_with fail
   obtain ⟨wo, hwo⟩ : ∃ wo : World, wo = wr := ⟨_, rfl⟩
   rw [<- hwo] at hb0 hr0 hX2 hcm ⊢
   clear hwo
   go_loopw [8, 9, 10, 11, 12, 13, 14, 30] (fun c _ _ _ _ _ _ j wr => ∃ t c' : Nat, t <= q /\ c' < 18446744073709551616 /\ j = .int .i64 t /\ c = .int .u64 c' /\ MulRel2 w g L (dv 18446744073709551616 (lX.take i) * dv 18446744073709551616 lY + m * dv 18446744073709551616 (lY.take t) * 18446744073709551616 ^ i) (i + t) c' (i + q) wr) (fun _ _ _ _ _ _ _ j _ => q - (intOf j).toNat)
   case atStart =>
    exact ⟨0, 0, Nat.zero_le _, by omega, rfl, rfl, l0, HV0.out.2.1, hr0, hd0, by rw [HV0.out.1]; simp [dv], hlow, hb0⟩
   case round =>
    obtain ⟨t, c, ht, hcl, rfl, rfl, l, hl, hr, hd, hv, htop, hb⟩ := hrel
    clear hr0 hd0 hlow hX2 hcm hb0
    have HV := lh (And.intro hv (And.intro hl htop))
    clear hv hl htop
    by_cases hlt2 : t < q
    ·have hY2 := hY.below (hb.mono hBY)
     obtain ⟨ad2, n, hA2, hab2, hn, hcn⟩ := hY2.atf hlt2
     have hnl := hdY.get hn
     have htk2 := dv_take_succ (β := 18446744073709551616) hn
     have hpL2 : i + t < L := by have := HL.out; omega
     obtain ⟨x, hx⟩ : ∃ x, l[i + t]? = some x := ⟨_, List.getElem?_eq_getElem (by rw [HV.out.2.1]; exact hpL2)⟩
     have hxl := hd.get hx
     have hcx := hr.cell hx
     have hfx := hr.frozen (i + t)
     obtain ⟨hi', hhi⟩ : ∃ hi', m * n / 18446744073709551616 = hi' := ⟨_, rfl⟩
     obtain ⟨lo', hlo⟩ : ∃ lo', m * n % 18446744073709551616 = lo' := ⟨_, rfl⟩
     obtain ⟨s1, hs1⟩ : ∃ s1, (lo' + x) % 18446744073709551616 = s1 := ⟨_, rfl⟩
     obtain ⟨c1, hc1⟩ : ∃ c1, (lo' + x) / 18446744073709551616 = c1 := ⟨_, rfl⟩
     obtain ⟨s2, hs2⟩ : ∃ s2, (s1 + c) % 18446744073709551616 = s2 := ⟨_, rfl⟩
     obtain ⟨c2, hc2⟩ : ∃ c2, (s1 + c) / 18446744073709551616 = c2 := ⟨_, rfl⟩
     have hkey := mul_key hhi hlo hs1 hc1 hs2 hc2
     have hCl := carry_lt hxl hml hnl hcl hkey
     have hlol : lo' < 18446744073709551616 := by omega
     have hs2l : s2 < 18446744073709551616 := by omega
     have hs1l : s1 < 18446744073709551616 := by omega
     have hmul := Tryz.bits_Mul64 m n hml hnl
     rw [hhi, hlo] at hmul
     have ha1 : ∀ w, (callFunc 155 #[.int .u64 (lo' : Int), .int .u64 (x : Int), .int .u64 0]).run Tryz.prog w = .ok (.value (.tuple #[.int .u64 (s1 : Int), .int .u64 (c1 : Int)])) w := fun w => by
      have := run_add lo' x 0 (by omega) w
      rw [Nat.add_zero, hs1, hc1] at this
      exact this
     have ha2 : ∀ w, (callFunc 155 #[.int .u64 (s1 : Int), .int .u64 (c : Int), .int .u64 0]).run Tryz.prog w = .ok (.value (.tuple #[.int .u64 (s2 : Int), .int .u64 (c2 : Int)])) w := fun w => by
      have := run_add s1 c 0 (by omega) w
      rw [Nat.add_zero, hs2, hc2] at this
      exact this
     obtain ⟨h1, hh1⟩ : ∃ h1, hi' + c1 = h1 := ⟨_, rfl⟩
     obtain ⟨C, hC⟩ : ∃ C, h1 + c2 = C := ⟨_, rfl⟩
     rw [hh1, hC] at hkey hCl
     have hw1 : IntKind.u64.wrap ((hi' : Int) + (c1 : Int)) = (h1 : Int) := by rw [wrap_u64_of _ (by omega) (by omega)]; omega
     have hw2 : IntKind.u64.wrap ((h1 : Int) + (c2 : Int)) = (C : Int) := by rw [wrap_u64_of _ (by omega) (by omega)]; omega
     have hnew := add_step (s := s2) (c' := C) (b := m * n) hx hkey HV.out.1
     have hnew2 : dv 18446744073709551616 (l.set (i + t) s2) + C * 18446744073709551616 ^ (i + (t + 1)) = dv 18446744073709551616 (lX.take i) * dv 18446744073709551616 lY + m * dv 18446744073709551616 (lY.take (t + 1)) * 18446744073709551616 ^ i := by
      rw [<- Nat.add_assoc, hnew, htk2, Nat.mul_add, Nat.add_mul, Nat.pow_add, Nat.add_assoc]
      congr 2
      rw [Nat.mul_comm (18446744073709551616 ^ i), Nat.mul_assoc, Nat.mul_assoc, Nat.mul_assoc]
     have hfin : MulRel2 w g L (dv 18446744073709551616 (lX.take i) * dv 18446744073709551616 lY + m * dv 18446744073709551616 (lY.take (t + 1)) * 18446744073709551616 ^ i) (i + (t + 1)) C (i + q) (wr.setCell ⟨g, i + t, none⟩ (u64v s2)) := by
      refine ⟨l.set (i + t) s2, by rw [List.length_set]; exact HV.out.2.1, hr.set_ (i + t) s2, hd.set_ _ hs2l, hnew2, ?_, hb.setCell hgg _⟩
      rw [List.drop_set_of_lt (by omega)]
      exact HV.out.2.2
     have HFIN := lh hfin
     have HMUL := lh hmul
     have k1 : ((i : Int) + (t : Int)).toNat = i + t := by omega
     have k2 : (i : Int) + (t : Int) < (L : Int) := by omega
     have k3 : (0 : Int) <= (i : Int) + (t : Int) := by omega
     have k4 : (t : Int) < (q : Int) := by omega
     unfold u64v at hcx hcn
     clear hhi hlo hs1 hc1 hs2 hc2 hkey hh1 hC hnew hnew2 hfin hmul hx hn htk2 hd hb hY2
     subst hA2
     go_wp2_with fail
     refine (HMUL.out _).mono ?_
     rintro e w5 ⟨rfl, rfl⟩
     go_wp2
     exact ⟨⟨t + 1, C, by omega, hCl, by go_num, rfl, HFIN.out⟩, by simp [intOf]; omega⟩
    obtain rfl : t = q := by omega
    have hpL2 : i + t < L := by have := HL.out; omega
    obtain ⟨x, hx⟩ : ∃ x, l[i + t]? = some x := ⟨_, List.getElem?_eq_getElem (by rw [HV.out.2.1]; exact hpL2)⟩
    have hx0 : x = 0 := dv_zero (by omega) HV.out.2.2 (k := 0) (by rw [List.getElem?_drop]; exact hx)
    subst hx0
    have hcx := hr.cell hx
    have hfx := hr.frozen (i + t)
    have hst := dv_set (β := 18446744073709551616) c hx
    have hnew : dv 18446744073709551616 (l.set (i + t) c) = dv 18446744073709551616 (lX.take (i + 1)) * dv 18446744073709551616 lY := by
     have h1 := HV.out.1
     rw [dv_take_out (l := lY) (by rw [HL.out.2.1]; omega)] at h1
     rw [HV0.out.2.2.1, Nat.add_mul]
     have h2 : m * dv 18446744073709551616 lY * 18446744073709551616 ^ i = m * 18446744073709551616 ^ i * dv 18446744073709551616 lY := by rw [Nat.mul_right_comm]
     omega
    have hfin : MulRel w g L (dv 18446744073709551616 (lX.take (i + 1)) * dv 18446744073709551616 lY) (wr.setCell ⟨g, i + t, none⟩ (u64v c)) :=
     ⟨l.set (i + t) c, by rw [List.length_set]; exact HV.out.2.1, hr.set_ (i + t) c, hd.set_ _ hcl, hnew, hb.setCell hgg _⟩
    have HFIN := lh hfin
    have k1 : ((i : Int) + (t : Int)).toNat = i + t := by omega
    have k2 : (i : Int) + (t : Int) < (L : Int) := by omega
    have k3 : (0 : Int) <= (i : Int) + (t : Int) := by omega
    have k4 : ¬ (t : Int) < (t : Int) := by omega
    unfold u64v at hcx
    clear hst hnew hfin hx hd hb
    go_wp2
    exact ⟨⟨i + 1, by omega, by go_num, HFIN.out⟩, by simp [intOf]; omega⟩
  obtain rfl : i = p := by omega
  rw [List.take_of_length_le (by rw [HL.out.1]; omega)] at hv0
  go_wp2
  go_ret
  exact ⟨g, l0, rfl, hl0, hr0, hd0, hv0, hb0, hgg⟩
theorem cmpI_lt {a b : Nat} (h : a < b) : cmpI a b = -1 := by unfold cmpI; rw [if_pos h]
theorem cmpI_gt {a b : Nat} (h : b < a) : cmpI a b = 1 := by unfold cmpI; rw [if_neg (by omega), if_pos h]
theorem cmpI_eq (a : Nat) : cmpI a a = 0 := by unfold cmpI; rw [if_neg (by omega), if_neg (by omega)]
theorem dv_cmp {β : Nat} {la lb : List Nat} {k x y : Nat} (hda : Dig β la) (hdb : Dig β lb) (hβ : 0 < β) (hx : la[k]? = some x) (hy : lb[k]? = some y) (he : la.drop (k + 1) = lb.drop (k + 1)) (h : x < y) : dv β la < dv β lb := by
 have hka : k < la.length := (List.getElem?_eq_some_iff.1 hx).1
 have hkb : k < lb.length := (List.getElem?_eq_some_iff.1 hy).1
 have ha := dv_split (β := β) (l := la) k (by omega)
 have hb := dv_split (β := β) (l := lb) k (by omega)
 rw [dv_drop hx] at ha
 rw [dv_drop hy, <- he] at hb
 have h1 := dv_lt (hda.take k)
 rw [List.length_take, Nat.min_eq_left (by omega)] at h1
 have h2 : β ^ k * (x + 1 + β * dv β (la.drop (k + 1))) <= β ^ k * (y + β * dv β (la.drop (k + 1))) := Nat.mul_le_mul_left _ (by omega)
 rw [show x + 1 + β * dv β (la.drop (k + 1)) = (x + β * dv β (la.drop (k + 1))) + 1 from by omega, Nat.mul_add, Nat.mul_one] at h2
 omega
theorem words_longer {a b : Nat} (h : (words a).length < (words b).length) : a < b := by
 have hb0 : b ≠ 0 := by
  intro h0
  subst h0
  simp [words_zero] at h
 have h1 := dv_lt (words_dig a)
 rw [dv_words] at h1
 obtain ⟨ht1, ht2, ht3⟩ := words_top b hb0
 have hl := congrArg List.length ht1
 rw [List.length_append, List.length_singleton] at hl
 have hx : (words b)[(words b).length - 1]? = some (top b) := by
  rw [ht1, List.getElem?_append_right (by simp)]
  simp
 have h2 := dv_ge (β := 18446744073709551616) hx
 rw [dv_words] at h2
 have h3 : 18446744073709551616 ^ (words a).length <= 18446744073709551616 ^ ((words b).length - 1) := Nat.pow_le_pow_right (by omega) (by omega)
 have h4 : 1 * 18446744073709551616 ^ ((words b).length - 1) <= top b * 18446744073709551616 ^ ((words b).length - 1) := Nat.mul_le_mul_right _ (by omega)
 omega
theorem cmp_lo {a b : Nat} (hl : (words a).length = (words b).length) (h : (words a).drop 1 = (words b).drop 1) : cmpI (lo a) (lo b) = cmpI a b := by
 by_cases ha : a = 0
 ·subst ha
  have hb : b = 0 := by
   rcases Nat.eq_zero_or_pos b with h0 | h0
   ·exact h0
   have := words_len_pos b (by omega)
   rw [<- hl, words_zero] at this
   simp at this
  subst hb
  rfl
 have hb : b ≠ 0 := by
  intro hb
  subst hb
  have := words_len_pos a ha
  rw [hl, words_zero] at this
  simp at this
 have e1 := dv_words a
 have e2 := dv_words b
 rw [words_head a ha, dv_cons] at e1
 rw [words_head b hb, dv_cons] at e2
 rw [<- List.drop_one] at e1 e2
 rw [<- h] at e2
 unfold cmpI
 by_cases h1 : lo a < lo b
 ·rw [if_pos h1, if_pos (by omega)]
 rw [if_neg h1]
 by_cases h2 : lo b < lo a
 ·rw [if_pos h2, if_neg (by omega), if_pos (by omega)]
 rw [if_neg h2, if_neg (by omega), if_neg (by omega)]
def CmpRel (w : World) (a b : Nat) (wr : World) : Prop := Blk wr w.heap.size 52 #[.int .u64 (lo a : Int), .string (mo a)] /\ Blk wr (w.heap.size + 1) 52 #[.int .u64 (lo b : Int), .string (mo b)] /\ Below w.heap.size w wr
theorem nat_cmp (a b : Nat) (w : World) (ha : blen a <= 1125899906842624) (hb : blen b <= 1125899906842624) : Calls Tryz.prog 102 #[natV a, natV b] w (Ret (.int .i64 (cmpI a b)) w) := by
 have hwa := words_len_le a ha
 have hwb := words_len_le b hb
 have hsa := mo_size a
 have hsb := mo_size b
 unfold natV
 have b0 := (Blk.new w  52 #[.int .u64 (lo a : Int), .string (mo a)]).alloc (.cells #[.int .u64 (lo b : Int), .string (mo b)] 52); have b1 := Blk.new2 w (.cells #[.int .u64 (lo a : Int), .string (mo a)] 52) 52 #[.int .u64 (lo b : Int), .string (mo b)]; have hB := balloc2 w (.cells #[.int .u64 (lo a : Int), .string (mo a)] 52) (.cells #[.int .u64 (lo b : Int), .string (mo b)] 52); have hZ := lh (show ((w.alloc (.cells #[.int .u64 (lo a : Int), .string (mo a)] 52)).alloc (.cells #[.int .u64 (lo b : Int), .string (mo b)] 52)).heap.size = w.heap.size + 1 + 1 from by simp)
 by_cases hne : (mo a).size = (mo b).size
 ·obtain ⟨L, hL⟩ : ∃ L, (words a).length - 1 = L := ⟨_, rfl⟩
  have hLb : (words b).length - 1 = L := by omega
  have hsz : (mo a).size = 8 * L := by omega
  have hszb : (mo b).size = 8 * L := by omega
  have hLe : L <= 17592186044416 := by omega
  have hlen : (words a).length = (words b).length \/ L = 0 := by omega
  have hne2 : (((mo a).size : Int) != ((mo b).size : Int)) = false := by rw [hne]; simp
  have HS := lh (And.intro hsz (And.intro hszb (And.intro hL (And.intro hLb hlen))))
  clear hsa hsb hne hL hLb hsz hszb hlen
  have hi0 : ((mo a).size : Int) - 8 = 8 * (L : Int) - 8 := by have := HS.out.1; omega
  go_enter Tryz.func102, Tryz.ntmps102
  go_wp2_with fail
  generalize ((w.alloc (.cells #[.int .u64 (lo a : Int), .string (mo a)] 52)).alloc (.cells #[.int .u64 (lo b : Int), .string (mo b)] 52)) = W at *
  clear hi0
  go_loopw [5] (fun i wr => ∃ k : Nat, k <= L /\ i = .int .i64 (8 * (k : Int) - 8) /\ CmpRel w a b wr /\ Hid ((words a).drop (k + 1) = (words b).drop (k + 1))) (fun i _ => (intOf i + 8).toNat)
  case atStart =>
   refine ⟨L, Nat.le_refl _, rfl, ⟨b0, b1, hB⟩, ?_⟩
   show _ = _
   have := HS.out
   rw [List.drop_of_length_le (by omega), List.drop_of_length_le (by omega)]
  case round =>
   obtain ⟨k, hk, rfl, ⟨c0, c1, hB2⟩, HK⟩ := hrel
   obtain ⟨c0q0, c0q1⟩ := c0.c2; obtain ⟨c1q0, c1q1⟩ := c1.c2
   by_cases h0 : k = 0
   ·subst h0
    go_wp2_with fail
    refine (nat_cmpWord (lo a) (lo b) _).mono ?_
    rintro e w1 ⟨rfl, rfl⟩
    have e : cmpI (lo a) (lo b) = cmpI a b := by
     rcases HS.out.2.2.2.2 with h1 | h1
     ·exact cmp_lo h1 HK.out
     have h2 := HS.out
     have ha1 : a < 18446744073709551616 := by
      rcases Nat.lt_or_ge a 18446744073709551616 with h3 | h3
      ·exact h3
      have := words_big a (by omega)
      omega
     have hb1 : b < 18446744073709551616 := by
      rcases Nat.lt_or_ge b 18446744073709551616 with h3 | h3
      ·exact h3
      have := words_big b (by omega)
      omega
     rw [lo_small a ha1, lo_small b hb1]
    rw [e]
    clear e
    go_wp2
    go_ret
    exact ⟨rfl, hB2⟩
   obtain ⟨j, rfl⟩ : ∃ j, k = j + 1 := ⟨k - 1, by omega⟩
   have hq := HS.out
   obtain ⟨x, hx⟩ : ∃ x, (words a)[j + 1]? = some x := ⟨_, List.getElem?_eq_getElem (by omega)⟩
   obtain ⟨y, hy⟩ : ∃ y, (words b)[j + 1]? = some y := ⟨_, List.getElem?_eq_getElem (by omega)⟩
   have hxl := words_lt a x (List.mem_of_getElem? hx)
   have hyl := words_lt b y (List.mem_of_getElem? hy)
   have hslA : ∀ w, (Instr.slice 9 (.string (mo a)) (some (.int .i64 (8 * (j : Int)))) none none).run Tryz.prog w = .ok (.string ((mo a).extract (8 * j) (mo a).size)) w := fun w => by
    have := run_cut_str (P := Tryz.prog) 9 Tryz.underlying9 (mo a) .i64 (8 * (j : Int)) (by omega) (by omega) w
    rw [this, show (8 * (j : Int)).toNat = 8 * j from by omega]
   have hslB : ∀ w, (Instr.slice 9 (.string (mo b)) (some (.int .i64 (8 * (j : Int)))) none none).run Tryz.prog w = .ok (.string ((mo b).extract (8 * j) (mo b).size)) w := fun w => by
    have := run_cut_str (P := Tryz.prog) 9 Tryz.underlying9 (mo b) .i64 (8 * (j : Int)) (by omega) (by omega) w
    rw [this, show (8 * (j : Int)).toNat = 8 * j from by omega]
   obtain ⟨rA, hrA⟩ := word_at a (j + 1) x (by omega) hx
   obtain ⟨rB, hrB⟩ := word_at b (j + 1) y (by omega) hy
   rw [Nat.add_sub_cancel] at hrA hrB
   have hexA : ((mo a).extract (8 * j) (mo a).size).data.toList = leB x ++ rA := by
    rw [Lib.extract_data, hrA, List.take_of_length_le]
    have h5 := congrArg List.length hrA
    rw [List.length_drop, <- Lib.size_eq] at h5
    omega
   have hexB : ((mo b).extract (8 * j) (mo b).size).data.toList = leB y ++ rB := by
    rw [Lib.extract_data, hrB, List.take_of_length_le]
    have h5 := congrArg List.length hrB
    rw [List.length_drop, <- Lib.size_eq] at h5
    omega
   have HEA := lh hexA
   have HEB := lh hexB
   have HXY := lh (And.intro hx hy)
   generalize (mo a).extract (8 * j) (mo a).size = sA at *
   generalize (mo b).extract (8 * j) (mo b).size = sB at *
   clear hexA hexB hx hy hrA hrB hq
   rw [show (8 * ((j + 1 : Nat) : Int) - 8) = 8 * (j : Int) from by omega]
   have hj0 : (0 : Int) <= 8 * (j : Int) := by omega
   have hjm : (8 : Int) * (j : Int) <= 140737488355328 := by omega
   have hw8 : IntKind.i64.wrap (8 * (j : Int)) = 8 * (j : Int) := IntWalk.i64_in _ (by omega)
   go_wp2_with fail
   go_quiet (first | (go_at_call_of 134 (Value.string sA); refine Calls.quiet_of (nat_word_le sA x rA hxl HEA.out _)) | (go_at_call_of 134 (Value.string sB); refine Calls.quiet_of (nat_word_le sB y rB hyl HEB.out _)))
   have hlen : (words a).length = (words b).length := by have := HS.out; omega
   have HLEN := lh hlen
   clear hlen
   by_cases hxy : x = y
   ·subst hxy
    have hne3 : ((x : Int) != (x : Int)) = false := by simp
    go_wp2
    refine ⟨⟨j, by omega, by go_num, ⟨c0.drewN _, c1.drewN _, bdrewN hB2 _⟩, ?_⟩, by simp [intOf]; omega⟩
    show _ = _
    have h1 := HXY.out
    rw [List.drop_eq_getElem_cons (List.getElem?_eq_some_iff.1 h1.1).1, List.drop_eq_getElem_cons (List.getElem?_eq_some_iff.1 h1.2).1, (List.getElem?_eq_some_iff.1 h1.1).2, (List.getElem?_eq_some_iff.1 h1.2).2, HK.out]
   have hne3 : ((x : Int) != (y : Int)) = true := by simp [bne_iff_ne]; omega
   have e : cmpI x y = cmpI a b := by
    have h1 := HXY.out
    rcases Nat.lt_or_ge x y with h2 | h2
    ·have h3 := dv_cmp (words_dig a) (words_dig b) (by omega) h1.1 h1.2 HK.out h2
     rw [dv_words, dv_words] at h3
     rw [cmpI_lt h2, cmpI_lt h3]
    have h3 := dv_cmp (words_dig b) (words_dig a) (by omega) h1.2 h1.1 HK.out.symm (show y < x by omega)
    rw [dv_words, dv_words] at h3
    rw [cmpI_gt (show y < x by omega), cmpI_gt h3]
   have HE := lh e
   clear e
   go_wp2_with fail
   refine (nat_cmpWord x y _).mono ?_
   rintro e w1 ⟨rfl, rfl⟩
   rw [HE.out]
   go_wp2
   go_ret
   exact ⟨rfl, bdrewN hB2 _⟩
 rcases Nat.lt_or_ge (mo a).size (mo b).size with hlt | hge
 ·have e := cmpI_lt (words_longer (a := a) (b := b) (by omega))
  rw [e]
  have h1 : (((mo a).size : Int) != ((mo b).size : Int)) = true := by simp [bne_iff_ne]; omega
  have h2 : ((mo a).size : Int) < ((mo b).size : Int) := by omega
  clear hsa hsb e hne
  go_enter Tryz.func102, Tryz.ntmps102
  go_wp2
  go_ret
  exact ⟨rfl, hB⟩
 have e := cmpI_gt (words_longer (a := b) (b := a) (by omega))
 rw [e]
 have h1 : (((mo a).size : Int) != ((mo b).size : Int)) = true := by simp [bne_iff_ne]; omega
 have h2 : ¬ ((mo a).size : Int) < ((mo b).size : Int) := by omega
 clear hsa hsb e hne
 go_enter Tryz.func102, Tryz.ntmps102
 go_wp2
 go_ret
 exact ⟨rfl, hB⟩
theorem nat_mul_small (a b : Nat) (w : World) (ha : a < 18446744073709551616) (hb : b < 18446744073709551616) : Calls Tryz.prog 83 #[natV a, natV b] w (Ret (natV (a * b)) w) := by
 unfold natV
 obtain ⟨S, hS⟩ : ∃ S, a * b % 18446744073709551616 = S := ⟨_, rfl⟩
 obtain ⟨C, hC⟩ : ∃ C, a * b / 18446744073709551616 = C := ⟨_, rfl⟩
 have hab : a * b = S + 18446744073709551616 * C := by omega
 have hmul := Tryz.bits_Mul64 a b ha hb
 rw [hS, hC] at hmul
 have HMUL := lh hmul
 have hSb : S < 18446744073709551616 := by omega
 have hCb : C < 18446744073709551616 := by
  rw [<- hC, Nat.div_lt_iff_lt_mul (by omega)]
  exact Nat.mul_lt_mul'' ha hb
 clear hmul hS hC
 obtain ⟨N, hN⟩ : ∃ N, a * b = N := ⟨_, rfl⟩
 rw [hN] at hab ⊢
 have HN := lh hab
 clear hab hN
 have ea := mo_small a ha
 have eb := mo_small b hb
 rw [ea, eb, lo_small a ha, lo_small b hb]
 clear ea eb
 have b2 := Blk.new3 w (.cells #[.int .u64 (a : Int), .string ⟨#[]⟩] 52) (.cells #[.int .u64 (b : Int), .string ⟨#[]⟩] 52) 52 #[.int .u64 0, .string ⟨#[]⟩]
 have hB := balloc3 w (.cells #[.int .u64 (a : Int), .string ⟨#[]⟩] 52) (.cells #[.int .u64 (b : Int), .string ⟨#[]⟩] 52) (.cells #[.int .u64 0, .string ⟨#[]⟩] 52)
 have hZ := lh (show (((w.alloc (.cells #[.int .u64 (a : Int), .string ⟨#[]⟩] 52)).alloc (.cells #[.int .u64 (b : Int), .string ⟨#[]⟩] 52)).alloc (.cells #[.int .u64 0, .string ⟨#[]⟩] 52)).heap.size = w.heap.size + 1 + 1 + 1 from by simp)
 by_cases hC0 : C = 0
 ·subst hC0
  have e : N = S := by have := HN.out; omega
  rw [e, mo_small S hSb, lo_small S hSb]
  clear e
  go_enter Tryz.func83, Tryz.ntmps83
  go_wp2_with fail
  refine (HMUL.out _).mono ?_
  rintro e w1 ⟨rfl, rfl⟩
  go_wp2
  go_returns
  exact ⟨rfl, balloc3 w _ _ _⟩
 have hC2 : ((C : Int) == 0) = false := by simp; omega
 go_enter Tryz.func83, Tryz.ntmps83
 go_wp2_with fail
 refine (HMUL.out _).mono ?_
 rintro e w1 ⟨rfl, rfl⟩
 go_wp2_with fail
 generalize ((w.alloc (.cells #[.int .u64 (a : Int), .string ⟨#[]⟩] 52)).alloc (.cells #[.int .u64 (b : Int), .string ⟨#[]⟩] 52)).alloc (.cells #[.int .u64 0, .string ⟨#[]⟩] 52) = W at *
 have hrow := (Row.new W 50 u64v [S, C]).reads
 rw [hZ.out] at hrow
 refine (nat_fromWords _ 2 2 _ [S, C] _ hrow (by simp; have := hZ.out; omega) (Dig.cons hSb (Dig.cons (by omega) Dig.nil)) (by omega) (by omega)).mono ?_
 rintro e w1 ⟨rfl, hb1⟩
 have e : dv 18446744073709551616 [S, C] = N := by
  simp only [dv]
  have := HN.out
  omega
 rw [e]
 have hb1 := bthen (balloc1 W _) hb1
 (try clear b2q0 b2q1 b2f0 b2f1 b2s0 b2s1); have b2 := b2.below hb1 b2.lt; obtain ⟨b2q0, b2q1, b2f0, b2f1, b2s0, b2s1⟩ := b2.f2
 have hB1 := bthen hB hb1
 clear e hrow
 unfold natV
 go_wp2
 refine bodyPost_ret (v := .agg #[.int .u64 (lo N : Int), .string (mo N)]) (by simp [results, Tryz.results83, go_sem, b2s0, b2s1]) rfl ?_
 exact ⟨rfl, bset2 hB1 (by omega) _ _⟩
theorem nat_mul_big (a b : Nat) (w : World) (hab : ¬ (a < 18446744073709551616 /\ b < 18446744073709551616)) (ha : blen a <= 1099511627776) (hb : blen b <= 1099511627776) : Calls Tryz.prog 83 #[natV a, natV b] w (Ret (natV (a * b)) w) := by
 have hwa := words_len_b a ha
 have hwb := words_len_b b hb
 have hc : (¬ (mo a).toList = [] /\ (mo a).toList.isEmpty = false) \/ ((mo a).toList = [] /\ (mo a).toList.isEmpty = true /\ ¬ (mo b).toList = [] /\ (mo b).toList.isEmpty = false) := by
  by_cases h : a < 18446744073709551616
  ·have h1 := mo_empty a h
   exact .inr ⟨h1.1, h1.2, mo_full b (fun h2 => hab ⟨h, h2⟩)⟩
  exact .inl (mo_full a h)
 unfold natV
 have b0 := ((Blk.new w  52 #[.int .u64 (lo a : Int), .string (mo a)]).alloc (.cells #[.int .u64 (lo b : Int), .string (mo b)] 52)).alloc (.cells #[.int .u64 0, .string ⟨#[]⟩] 52); have b1 := (Blk.new2 w (.cells #[.int .u64 (lo a : Int), .string (mo a)] 52) 52 #[.int .u64 (lo b : Int), .string (mo b)]).alloc (.cells #[.int .u64 0, .string ⟨#[]⟩] 52); have b2 := Blk.new3 w (.cells #[.int .u64 (lo a : Int), .string (mo a)] 52) (.cells #[.int .u64 (lo b : Int), .string (mo b)] 52) 52 #[.int .u64 0, .string ⟨#[]⟩]; have hB := balloc3 w (.cells #[.int .u64 (lo a : Int), .string (mo a)] 52) (.cells #[.int .u64 (lo b : Int), .string (mo b)] 52) (.cells #[.int .u64 0, .string ⟨#[]⟩] 52); have hZ := lh (show (((w.alloc (.cells #[.int .u64 (lo a : Int), .string (mo a)] 52)).alloc (.cells #[.int .u64 (lo b : Int), .string (mo b)] 52)).alloc (.cells #[.int .u64 0, .string ⟨#[]⟩] 52)).heap.size = w.heap.size + 1 + 1 + 1 from by simp)
 have hdA := words_dig a
 have hdB := words_dig b
 have HVA := lh (And.intro (dv_words a) (dv_words b))
 go_enter Tryz.func83, Tryz.ntmps83
 rcases hc with ⟨hc1, hc2⟩ | ⟨hc1, hc2, hc3, hc4⟩
 all_goals
  go_wp2_with fail
  generalize (((w.alloc (.cells #[.int .u64 (lo a : Int), .string (mo a)] 52)).alloc (.cells #[.int .u64 (lo b : Int), .string (mo b)] 52)).alloc (.cells #[.int .u64 0, .string ⟨#[]⟩] 52)) = W at *
  obtain ⟨b0q0, b0q1⟩ := b0.c2; obtain ⟨b1q0, b1q1⟩ := b1.c2
  have c0 := b0.drew
  have c1 := b1.drew
  have c2 := b2.drew
  have hn1 : ¬ w.heap.size = w.heap.size + 1 + 1 := by omega
  have hn2 : ¬ w.heap.size + 1 + 1 = w.heap.size := by omega
  go_region_held3 (fun w' => w'.cell? ⟨w.heap.size, 0, none⟩ = some (.int .u64 (lo a : Int)) /\ w'.cell? ⟨w.heap.size, 1, none⟩ = some (.string (mo a)) /\ w'.cell? ⟨w.heap.size + 1, 0, none⟩ = some (.int .u64 (lo b : Int)) /\ w'.cell? ⟨w.heap.size + 1, 1, none⟩ = some (.string (mo b))) (go_keep) (first | (go_at_call_of 122 (Value.agg #[.int .u64 (lo a : Int), .string (mo a)]); refine (nat_words a _ (by omega) (by omega)).mono ?_; rintro e wa ⟨va, rfl, hna⟩; have hba := hna.2.1; obtain ⟨Aa, ca, rfl, hca, _⟩ := hna.1.form; (try clear c0q0 c0q1); have c0 := c0.below hba c0.lt; obtain ⟨c0q0, c0q1⟩ := c0.c2; (try clear c1q0 c1q1); have c1 := c1.below hba c1.lt; obtain ⟨c1q0, c1q1⟩ := c1.c2; (try clear c2q0 c2q1); have c2 := c2.below hba c2.lt; obtain ⟨c2q0, c2q1⟩ := c2.c2) | (go_at_call_of 122 (Value.agg #[.int .u64 (lo b : Int), .string (mo b)]); refine (nat_words b _ (by omega) (by omega)).mono ?_; rintro e wb ⟨vb, rfl, hnb⟩; have hbb := hnb.2.1; obtain ⟨Ab, cb, rfl, hcb, _⟩ := hnb.1.form; (try clear c0q0 c0q1); have c0 := c0.below hbb c0.lt; obtain ⟨c0q0, c0q1⟩ := c0.c2; (try clear c1q0 c1q1); have c1 := c1.below hbb c1.lt; obtain ⟨c1q0, c1q1⟩ := c1.c2; (try clear c2q0 c2q1); have c2 := c2.below hbb c2.lt; obtain ⟨c2q0, c2q1⟩ := c2.c2) | (go_at_call 121; (first | have hT := Two.ab hna hnb | have hT := Two.ba hnb hna); refine (nat_mulWords _ _ _ _ _ _ _ _ (words a) (words b) _ (Own.reads hT.1) (Own.reads hT.2.1) zd zd (by omega) (by omega) hdA hdB).mono ?_; rintro e wm ⟨gm, lm, rfl, hlm, hrm, hdm, hvm, hbm, hgm⟩; (try clear c0q0 c0q1); have c0 := c0.below hbm c0.lt; obtain ⟨c0q0, c0q1⟩ := c0.c2; (try clear c1q0 c1q1); have c1 := c1.below hbm c1.lt; obtain ⟨c1q0, c1q1⟩ := c1.c2; (try clear c2q0 c2q1); have c2 := c2.below hbm c2.lt; obtain ⟨c2q0, c2q1⟩ := c2.c2) | (go_at_call 120; have hrd := hrm.reads; rw [hlm] at hrd; refine (nat_fromWords _ _ _ _ lm _ hrd hrm.lt hdm (by omega) zd).mono ?_; rintro e wf ⟨rfl, hbf⟩; rw [hvm, HVA.out.1, HVA.out.2]; unfold natV; (try clear c0q0 c0q1 c0f0 c0f1 c0s0 c0s1); have c0 := c0.below hbf c0.lt; obtain ⟨c0q0, c0q1, c0f0, c0f1, c0s0, c0s1⟩ := c0.f2; (try clear c1q0 c1q1 c1f0 c1f1 c1s0 c1s1); have c1 := c1.below hbf c1.lt; obtain ⟨c1q0, c1q1, c1f0, c1f1, c1s0, c1s1⟩ := c1.f2; (try clear c2q0 c2q1 c2f0 c2f1 c2s0 c2s1); have c2 := c2.below hbf c2.lt; obtain ⟨c2q0, c2q1, c2f0, c2f1, c2s0, c2s1⟩ := c2.f2))
  all_goals
   go_wp2
   refine bodyPost_ret (v := .agg #[.int .u64 (lo (a * b) : Int), .string (mo (a * b))]) (by simp [results, Tryz.results83, go_sem, c2s0, c2s1]) rfl ?_
   exact ⟨rfl, bset2 (bthen (bthen (bthen hB hT.2.2.1) hbm) hbf) (by omega) _ _⟩
theorem nat_mul (a b : Nat) (w : World) (ha : blen a <= 1099511627776) (hb : blen b <= 1099511627776) : Calls Tryz.prog 83 #[natV a, natV b] w (Ret (natV (a * b)) w) := by
 by_cases h : a < 18446744073709551616 /\ b < 18446744073709551616
 ·exact nat_mul_small a b w h.1 h.2
 exact nat_mul_big a b w h ha hb
end Go.Proofs.YtecnjlcfoobepaaGreatDoor
