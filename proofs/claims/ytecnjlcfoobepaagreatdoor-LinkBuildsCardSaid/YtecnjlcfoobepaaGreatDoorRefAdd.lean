import Derived.Test.YtecnjlcfoobepaaGreatDoorRefShift
namespace Go.Proofs.YtecnjlcfoobepaaGreatDoor
set_option maxRecDepth 100000
set_option maxHeartbeats 1000000
open Go.RowKit
set_option linter.unusedSimpArgs false
set_option linter.unusedVariables false
theorem quiet_back {P : Program} {f : FuncId} {args : Array Value} {w : World} {n : Nat} {v : Value} (h : Calls P f args (w.drewN n) fun e w' => e = .returned v /\ w.drewN n = w') : Calls P f args (w.drewN n) fun e w'' => e = .returned v /\ ∃ m, w'' = w.drewN m :=
 h.mono fun _ _ ⟨he, hm⟩ => ⟨he, n, hm.symm⟩
theorem set_pre {p : List Nat} {k m x : Nat} (hk : p.length = k) : (p ++ List.replicate (m + 1) 0).set k x = (p ++ [x]) ++ List.replicate m 0 := by
 subst hk
 rw [List.set_append_right _ _ zd, Nat.sub_self, List.replicate_succ, List.set_cons_zero, List.append_assoc]
 rfl
theorem get_pre {p : List Nat} {k m : Nat} (hk : p.length = k) : (p ++ List.replicate (m + 1) 0)[k]? = some 0 := by
 subst hk
 rw [List.getElem?_append_right zd, Nat.sub_self, List.replicate_succ]
 rfl
theorem limb_out {a k : Nat} (h : (limbs a).length <= k) : dv 4294967296 ((limbs a).take k) = a := by rw [List.take_of_length_le h, dv_limbs]
theorem limb_max {a b n : Nat} (h1 : (limbs a).length <= n) (h2 : (limbs b).length <= n) : a + b < 2 * 4294967296 ^ n := by
 have e1 := Nat.lt_of_lt_of_le (limbs_lt a) (Nat.pow_le_pow_right (show 0 < 4294967296 by omega) h1)
 have e2 := Nat.lt_of_lt_of_le (limbs_lt b) (Nat.pow_le_pow_right (show 0 < 4294967296 by omega) h2)
 omega
def AddR (w : World) (g n X k c : Nat) (wr : World) : Prop :=
 ∃ p : List Nat, p.length = k /\ Dig 4294967296 p /\ Row wr g 155 u32v (p ++ List.replicate (n + 1 - k) 0) /\ dv 4294967296 p + c * 4294967296 ^ k = X /\ Below w.heap.size w wr
theorem ref_natAdd (a b B : Nat) (va vb : Value) (w : World) (h : IsN w B va a) (h' : IsN w B vb b) (hB : B <= w.heap.size) (hla : (limbs a).length <= 34359738368) (hlb : (limbs b).length <= 34359738368) :
  Calls Tryz.prog 159 #[va, vb] w (RetN (a + b) w) := by
 obtain ⟨A1, c1, rfl, hac, hac2, hr1, _⟩ := h
 obtain ⟨A2, c2, rfl, hbc, hbc2, hr2, _⟩ := h'
 obtain ⟨p, hp⟩ : ∃ p, (limbs a).length = p := ⟨_, rfl⟩
 obtain ⟨q, hq⟩ : ∃ q, (limbs b).length = q := ⟨_, rfl⟩
 rw [hp] at hr1 hac hla
 rw [hq] at hr2 hbc hlb
 rw [hp, hq]
 obtain ⟨n, hn⟩ : ∃ n, max p q = n := ⟨_, rfl⟩
 have hnb : n <= 34359738368 := by omega
 have m1 : (if (p : Int) < (q : Int) then (q : Int) else (p : Int)) = (n : Int) := by split <;> omega
 have m2 : (if (q : Int) < (p : Int) then (p : Int) else (q : Int)) = (n : Int) := by split <;> omega
 have m3 : max (p : Int) (q : Int) = (n : Int) := by omega
 have hmax := limb_max (a := a) (b := b) (n := n) (by omega) (by omega)
 have HN := lh (And.intro hp (And.intro hq (And.intro hn hmax)))
 have hpn : p <= n := by omega
 have hqn : q <= n := by omega
 have HR1 := lh hr1
 have HR2 := lh hr2
 clear hp hq hn hmax hr1 hr2
 have hmk := make_row (P := Tryz.prog) u32v 0 66 155 4 Tryz.underlying66 Tryz.infoU32 rfl .i64 .i64 (n + 1) (by omega) (by omega)
 have m4 : ((n + 1 : Nat) : Int) = (n : Int) + 1 := by omega
 rw [m4] at hmk
 clear m4
 go_enter Tryz.func159, Tryz.ntmps159
 go_wp2_with fail
 clear hmk m1 m2 m3
 have hrow := Row.rep w 155 u32v 0 (n + 1)
 have hbel0 := balloc1 w (.cells (Array.replicate (n + 1) (u32v 0)) 155)
 obtain ⟨g, hg⟩ : ∃ g, w.heap.size = g := ⟨_, rfl⟩
 have hgw : w.heap.size <= g := by omega
 have HG := lh hg
 rw [hg] at hrow
 rw [hg]
 clear hg
 go_loopw [7, 8] (fun cc i wr => ∃ k c : Nat, k <= n + 1 /\ i = .int .i64 (k : Int) /\ cc = .int .u64 (c : Int) /\ c <= 1 /\ AddR w g n (dv 4294967296 ((limbs a).take k) + dv 4294967296 ((limbs b).take k)) k c wr) (fun _ i _ => n + 1 - (intOf i).toNat)
 case atStart => exact ⟨0, 0, by omega, rfl, rfl, by omega, [], rfl, Dig.nil, by simpa using hrow, by simp [dv], hbel0⟩
 case round =>
  obtain ⟨k, c, hk, rfl, rfl, hc, pl, hpl, hpd, hpr, hpv, hbel⟩ := hrel
  rename World => wr
  clear hrow hbel0
  by_cases hlt : k <= n
  ·have hat1 := ref_at A1 p c1 B k (limbs a) wr (HR1.out.below (hbel.mono hB)) (by omega) (limbs_dig a) (by omega)
   have hat2 := ref_at A2 q c2 B k (limbs b) wr (HR2.out.below (hbel.mono hB)) (by omega) (limbs_dig b) (by omega)
   have hxl := limb_lt a k
   have hyl := limb_lt b k
   have ht1 := limb_take a k
   have ht2 := limb_take b k
   obtain ⟨x, hx⟩ : ∃ x, (limbs a).getD k 0 = x := ⟨_, rfl⟩
   obtain ⟨y, hy⟩ : ∃ y, (limbs b).getD k 0 = y := ⟨_, rfl⟩
   rw [hx] at hat1 hxl ht1
   rw [hy] at hat2 hyl ht2
   obtain ⟨S, hS⟩ : ∃ S, c + x = S := ⟨_, rfl⟩
   obtain ⟨V, hV⟩ : ∃ V, S + y = V := ⟨_, rfl⟩
   obtain ⟨V1, hV1⟩ : ∃ V1, V % 4294967296 = V1 := ⟨_, rfl⟩
   obtain ⟨V2, hV2⟩ : ∃ V2, V / 4294967296 = V2 := ⟨_, rfl⟩
   have f1 : IntKind.u64.wrap ((c : Int) + (x : Int)) = (S : Int) := by rw [wrap_u64_of _ (by omega) (by omega)]; omega
   have f2 : IntKind.u64.wrap ((S : Int) + (y : Int)) = (V : Int) := by rw [wrap_u64_of _ (by omega) (by omega)]; omega
   have f3 : IntKind.u32.wrap (V : Int) = (V1 : Int) := by rw [wrap_u32_nat, hV1]
   have f4 : (V : Int) / 4294967296 = (V2 : Int) := by omega
   have hrep : n + 1 - k = (n - k) + 1 := by omega
   rw [hrep] at hpr
   have hfz := hpr.frozen k
   have hcl := hpr.cell (get_pre (m := n - k) hpl)
   unfold u32v at hcl
   have hst := hpr.set_ k V1
   rw [set_pre hpl] at hst
   have hnew : dv 4294967296 (pl ++ [V1]) + V2 * 4294967296 ^ (k + 1) = dv 4294967296 ((limbs a).take (k + 1)) + dv 4294967296 ((limbs b).take (k + 1)) := by
    rw [dv_append, hpl, dv_cons, dv_nil, Nat.mul_zero, Nat.add_zero, ht1, ht2]
    have e1 : V2 * 4294967296 ^ (k + 1) = 4294967296 ^ k * (4294967296 * V2) := by rw [Nat.pow_succ, Nat.mul_comm V2, Nat.mul_assoc]
    have e2 : V1 + 4294967296 * V2 = c + x + y := by omega
    rw [e1, Nat.add_assoc, <- Nat.mul_add, e2, Nat.mul_add, Nat.mul_add, Nat.mul_comm _ c, Nat.mul_comm _ x, Nat.mul_comm _ y]
    omega
   have HF : Hid (AddR w g n (dv 4294967296 ((limbs a).take (k + 1)) + dv 4294967296 ((limbs b).take (k + 1))) (k + 1) V2 (wr.setCell ⟨g, k, none⟩ (u32v V1))) :=
    lh ⟨pl ++ [V1], by simp [hpl], hpd.append (Dig.cons (by omega) Dig.nil), by rw [show n + 1 - (k + 1) = n - k from by omega]; exact hst, hnew, hbel.setCell hgw _⟩
   have hV2l : V2 <= 1 := by omega
   have HAT1 := lh hat1
   have HAT2 := lh hat2
   have g1 : (k : Int) <= (n : Int) := by omega
   have g2 : (k : Int) < (n : Int) + 1 := by omega
   clear hat1 hat2 hx hy hS hV hV1 hV2 hst hnew ht1 ht2 hpr hpd hpv hrep
   go_wp2_with fail
   refine HAT1.out.mono ?_
   rintro e w1 ⟨rfl, rfl⟩
   go_wp2_with fail
   refine HAT2.out.mono ?_
   rintro e w1 ⟨rfl, rfl⟩
   go_wp2
   exact ⟨⟨k + 1, V2, by omega, by go_num, rfl, hV2l, HF.out⟩, by simp [intOf]; omega⟩
  obtain rfl : k = n + 1 := by omega
  rw [limb_out (by have := HN.out; omega), limb_out (by have := HN.out; omega)] at hpv
  have hc0 : c = 0 := by
   have h1 := HN.out.2.2.2
   rcases Nat.eq_zero_or_pos c with h0 | h0
   ·exact h0
   exfalso
   have h2 : 1 * 4294967296 ^ (n + 1) <= c * 4294967296 ^ (n + 1) := Nat.mul_le_mul_right _ h0
   rw [Nat.pow_succ] at h2
   rw [Nat.pow_succ] at hpv
   have h3 : 0 < 4294967296 ^ n := Nat.pow_pos (by omega)
   omega
  subst hc0
  rw [Nat.zero_mul, Nat.add_zero] at hpv
  rw [Nat.sub_self, List.replicate_zero, List.append_nil] at hpr
  have hrd := hpr.reads
  rw [hpl] at hrd
  have g1 : ¬ ((n : Int) + 1 <= (n : Int)) := by omega
  have HF := lh (And.intro hpd (And.intro hpv (And.intro hpr.ty hpr.lt)))
  clear hpv hpd hpr
  go_wp2_with fail
  refine (ref_trim (some ⟨g, 0, none⟩) (n + 1) (n + 1) _ pl wr hrd (by omega) (by omega)).mono ?_
  rintro e w5 ⟨rfl, rfl⟩
  go_wp2
  go_ret
  exact ⟨_, rfl, (IsN.trim hrd (by omega) (by omega) HF.out.1 HF.out.2.1 HF.out.2.2.1).more (by have := HF.out.2.2.2; omega), hbel⟩
def SubR (w : World) (g n X Y k c : Nat) (wr : World) : Prop :=
 ∃ p : List Nat, p.length = k /\ Dig 4294967296 p /\ Row wr g 155 u32v (p ++ List.replicate (n - k) 0) /\ dv 4294967296 p + Y = X + c * 4294967296 ^ k /\ Below w.heap.size w wr
theorem subL_key {x y c : Nat} (hx : x < 4294967296) (hy : y < 4294967296) (hc : c <= 1) : ∃ d s c' : Nat, IntKind.u64.wrap (IntKind.u64.wrap ((x : Int) - (y : Int)) - (c : Int)) = (d : Int) /\ IntKind.u32.wrap (d : Int) = (s : Int) /\ (d : Int) / 9223372036854775808 = (c' : Int) /\ s < 4294967296 /\ c' <= 1 /\ s + y + c = x + 4294967296 * c' := by
 by_cases h : y + c <= x
 ·refine ⟨x - y - c, x - y - c, 0, ?_, ?_, by omega, by omega, by omega, by omega⟩
  ·rw [wrap_u64_of ((x : Int) - (y : Int)) (by omega) (by omega), wrap_u64_of _ (by omega) (by omega)]
   omega
  rw [wrap_u32_nat, Nat.mod_eq_of_lt (by omega)]
 refine ⟨18446744073709551616 + x - y - c, 4294967296 + x - y - c, 1, ?_, ?_, by omega, by omega, by omega, by omega⟩
 ·simp only [IntKind.wrap, IntKind.bits, IntKind.signed]
  simp
  omega
 rw [wrap_u32_nat]
 congr 1
 omega
theorem ref_natSub (a b B : Nat) (va vb : Value) (w : World) (h : IsN w B va a) (h' : IsN w B vb b) (hB : B <= w.heap.size) (hla : (limbs a).length <= 34359738368) (hba : b <= a) :
  Calls Tryz.prog 160 #[va, vb] w (RetN (a - b) w) := by
 obtain ⟨A1, c1, rfl, hac, hac2, hr1, _⟩ := h
 obtain ⟨A2, c2, rfl, hbc, hbc2, hr2, _⟩ := h'
 have hlb := limbs_mono hba
 obtain ⟨n, hn⟩ : ∃ n, (limbs a).length = n := ⟨_, rfl⟩
 obtain ⟨q, hq⟩ : ∃ q, (limbs b).length = q := ⟨_, rfl⟩
 rw [hn] at hr1 hac hla hlb
 rw [hq] at hr2 hbc hlb
 rw [hn, hq]
 have HN := lh (And.intro hn (And.intro hq hba))
 have HR1 := lh hr1
 have HR2 := lh hr2
 clear hn hq hr2
 have hmk := make_row (P := Tryz.prog) u32v 0 66 155 4 Tryz.underlying66 Tryz.infoU32 rfl .i64 .i64 n (by omega) (by omega)
 go_enter Tryz.func160, Tryz.ntmps160
 go_wp2_with fail
 clear hmk
 have hrow := Row.rep w 155 u32v 0 n
 have hbel0 := balloc1 w (.cells (Array.replicate n (u32v 0)) 155)
 obtain ⟨g, hg⟩ : ∃ g, w.heap.size = g := ⟨_, rfl⟩
 have hgw : w.heap.size <= g := by omega
 have HG := lh hg
 rw [hg] at hrow
 rw [hg]
 clear hg
 go_loopw [6, 7] (fun cc i wr => ∃ k c : Nat, k <= n /\ i = .int .i64 (k : Int) /\ cc = .int .u64 (c : Int) /\ c <= 1 /\ SubR w g n (dv 4294967296 ((limbs a).take k)) (dv 4294967296 ((limbs b).take k)) k c wr) (fun _ i _ => n - (intOf i).toNat)
 case atStart => exact ⟨0, 0, by omega, rfl, rfl, by omega, [], rfl, Dig.nil, by simpa using hrow, by simp [dv], hbel0⟩
 case round =>
  obtain ⟨k, c, hk, rfl, rfl, hc, pl, hpl, hpd, hpr, hpv, hbel⟩ := hrel
  rename World => wr
  clear hrow hbel0
  by_cases hlt : k < n
  ·obtain ⟨ad, x, hA, hb1, hx, hcell⟩ := (HR1.out.below (hbel.mono hB)).atf hlt
   subst hA
   unfold u32v at hcell
   have hat2 := fun m => ref_at A2 q c2 B k (limbs b) (wr.drewN m) ((HR2.out.below (hbel.mono hB)).drewN m) (by omega) (limbs_dig b) (by omega)
   have hxl := (limbs_dig a).get hx
   have hyl := limb_lt b k
   have ht1 := dv_take_succ (β := 4294967296) hx
   have ht2 := limb_take b k
   obtain ⟨y, hy⟩ : ∃ y, (limbs b).getD k 0 = y := ⟨_, rfl⟩
   rw [hy] at hat2 hyl ht2
   obtain ⟨d, s, c', f1, f2, f3, hsl, hcl', hkey⟩ := subL_key hxl hyl hc
   have f0 : IntKind.u64.wrap (x : Int) = (x : Int) := by rw [wrap_u64_of _ (by omega) (by omega)]
   have hrep : n - k = (n - (k + 1)) + 1 := by omega
   rw [hrep] at hpr
   have hfz := hpr.frozen k
   have hcl := hpr.cell (get_pre (m := n - (k + 1)) hpl)
   unfold u32v at hcl
   have hst : ∀ m, Row ((wr.drewN m).setCell ⟨g, k, none⟩ (u32v s)) g 155 u32v ((pl ++ [s]) ++ List.replicate (n - (k + 1)) 0) := fun m => by
    have := (hpr.drewN m).set_ k s
    rw [set_pre hpl] at this
    exact this
   have hnew : dv 4294967296 (pl ++ [s]) + dv 4294967296 ((limbs b).take (k + 1)) = dv 4294967296 ((limbs a).take (k + 1)) + c' * 4294967296 ^ (k + 1) := by
    rw [dv_append, hpl, dv_cons, dv_nil, Nat.mul_zero, Nat.add_zero, ht1, ht2]
    have e1 : c' * 4294967296 ^ (k + 1) = (4294967296 * c') * 4294967296 ^ k := by rw [Nat.pow_succ, Nat.mul_comm (4294967296 ^ k), <- Nat.mul_assoc, Nat.mul_comm c']
    have e2 : 4294967296 ^ k * s + y * 4294967296 ^ k + c * 4294967296 ^ k = x * 4294967296 ^ k + 4294967296 * c' * 4294967296 ^ k := by
     rw [Nat.mul_comm _ s, <- Nat.add_mul, <- Nat.add_mul, hkey, Nat.add_mul]
    rw [e1]
    omega
   have HF : Hid (∀ m, SubR w g n (dv 4294967296 ((limbs a).take (k + 1))) (dv 4294967296 ((limbs b).take (k + 1))) (k + 1) c' ((wr.drewN m).setCell ⟨g, k, none⟩ (u32v s))) :=
    lh fun m => ⟨pl ++ [s], by simp [hpl], hpd.append (Dig.cons hsl Dig.nil), hst m, hnew, (bdrewN hbel m).setCell hgw _⟩
   have HAT2 := lh hat2
   have g1 : (k : Int) < (n : Int) := by omega
   clear hat2 hx hy hst hnew ht1 ht2 hpr hpd hpv hrep hkey
   go_wp2_with fail
   go_quiet ((go_at_call 161; exact quiet_back (HAT2.out _)))
   go_wp2
   exact ⟨⟨k + 1, c', by omega, by go_num, rfl, hcl', HF.out _⟩, by simp [intOf]; omega⟩
  obtain rfl : k = n := by omega
  rw [limb_out (by have := HN.out; omega), limb_out (by have := HN.out; omega)] at hpv
  have hpll := dv_lt hpd
  rw [hpl] at hpll
  have hc0 : c = 0 := by
   have h1 := HN.out.2.2
   rcases Nat.eq_zero_or_pos c with h0 | h0
   ·exact h0
   exfalso
   have h2 : 1 * 4294967296 ^ k <= c * 4294967296 ^ k := Nat.mul_le_mul_right _ h0
   omega
  subst hc0
  rw [Nat.zero_mul, Nat.add_zero] at hpv
  rw [Nat.sub_self, List.replicate_zero, List.append_nil] at hpr
  have hpv2 : dv 4294967296 pl = a - b := by omega
  have hrd := hpr.reads
  rw [hpl] at hrd
  have g1 : ¬ ((k : Int) < (k : Int)) := by omega
  have HF := lh (And.intro hpd (And.intro hpv2 (And.intro hpr.ty hpr.lt)))
  clear hpv hpd hpr hpv2 hpll
  go_wp2_with fail
  refine (ref_trim (some ⟨g, 0, none⟩) k k _ pl wr hrd (by omega) (by omega)).mono ?_
  rintro e w5 ⟨rfl, rfl⟩
  go_wp2
  go_ret
  exact ⟨_, rfl, (IsN.trim hrd (by omega) (by omega) HF.out.1 HF.out.2.1 HF.out.2.2.1).more (by have := HF.out.2.2.2; omega), hbel⟩
def RMul (w : World) (g len N : Nat) (wr : World) : Prop :=
 ∃ l : List Nat, l.length = len /\ Row wr g 155 u32v l /\ Dig 4294967296 l /\ dv 4294967296 l = N /\ Below w.heap.size w wr
def RMul2 (w : World) (g len N : Nat) (k c top : Nat) (wr : World) : Prop :=
 ∃ l : List Nat, l.length = len /\ Row wr g 155 u32v l /\ Dig 4294967296 l /\ dv 4294967296 l + c * 4294967296 ^ k = N /\ dv 4294967296 (l.drop top) = 0 /\ Below w.heap.size w wr
theorem mulL_key {m n x c : Nat} (hm : m < 4294967296) (hn : n < 4294967296) (hx : x < 4294967296) (hc : c < 4294967296) : ∃ S P V V1 V2 : Nat, IntKind.u64.wrap ((c : Int) + (x : Int)) = (S : Int) /\ IntKind.u64.wrap ((m : Int) * (n : Int)) = (P : Int) /\ IntKind.u64.wrap ((S : Int) + (P : Int)) = (V : Int) /\
  IntKind.u32.wrap (V : Int) = (V1 : Int) /\ (V : Int) / 4294967296 = (V2 : Int) /\ V1 < 4294967296 /\ V2 < 4294967296 /\ V1 + 4294967296 * V2 = x + m * n + c := by
 have hP : m * n <= 4294967295 * 4294967295 := Nat.mul_le_mul (by omega) (by omega)
 obtain ⟨P, hPe⟩ : ∃ P, m * n = P := ⟨_, rfl⟩
 rw [hPe] at hP ⊢
 refine ⟨c + x, P, c + x + P, (c + x + P) % 4294967296, (c + x + P) / 4294967296, ?_, ?_, ?_, ?_, ?_, by omega, by omega, by omega⟩
 ·rw [wrap_u64_of _ (by omega) (by omega)]; omega
 ·rw [<- Int.natCast_mul, hPe, wrap_u64_of _ (by omega) (by omega)]
 ·rw [wrap_u64_of _ (by omega) (by omega)]; omega
 ·rw [wrap_u32_nat]
 omega
theorem ref_natMul (a b B : Nat) (va vb : Value) (w : World) (h : IsN w B va a) (h' : IsN w B vb b) (hB : B <= w.heap.size) (hla : (limbs a).length <= 34359738368) (hlb : (limbs b).length <= 34359738368) :
  Calls Tryz.prog 127 #[va, vb] w (RetN (a * b) w) := by
 obtain ⟨A1, c1, rfl, hac, hac2, hX, _⟩ := h
 obtain ⟨A2, c2, rfl, hbc, hbc2, hY, _⟩ := h'
 obtain ⟨p, hp⟩ : ∃ p, (limbs a).length = p := ⟨_, rfl⟩
 obtain ⟨q, hq⟩ : ∃ q, (limbs b).length = q := ⟨_, rfl⟩
 rw [hp] at hX hac hla
 rw [hq] at hY hbc hlb
 rw [hp, hq]
 have hmk := make_row (P := Tryz.prog) u32v 0 66 155 4 Tryz.underlying66 Tryz.infoU32 rfl .i64 .i64 (p + q) (by omega) (by omega)
 obtain ⟨L, hL⟩ : ∃ L, p + q = L := ⟨_, rfl⟩
 have hL2 : (p : Int) + (q : Int) = (L : Int) := by omega
 rw [hL] at hmk
 have HL := lh (And.intro hp (And.intro hq hL))
 have hpL : p <= L := by omega
 have hLb : L <= 68719476736 := by omega
 clear hp hq hL
 go_enter Tryz.func127, Tryz.ntmps127
 go_wp2_with fail
 clear hmk
 have hrow := Row.rep w 155 u32v 0 L
 have hbel := balloc1 w (.cells (Array.replicate L (u32v 0)) 155)
 obtain ⟨g, hg⟩ : ∃ g, w.heap.size = g := ⟨_, rfl⟩
 rw [hg] at hrow
 rw [hg]
 have hgg : w.heap.size <= g := by omega
 clear hg
 go_loopw [6] (fun i wr => ∃ k : Nat, k <= p /\ i = .int .i64 k /\ RMul w g L (dv 4294967296 ((limbs a).take k) * b) wr) (fun i _ => p - (intOf i).toNat)
 case atStart => exact ⟨0, Nat.zero_le _, rfl, _, by simp, hrow, Dig.rep (by omega) _, by rw [dv_rep]; simp [dv], hbel⟩
 case round =>
  obtain ⟨i, hi, rfl, l0, hl0, hr0, hd0, hv0, hb0⟩ := hrel
  rename World => wr
  clear hrow hbel
  by_cases hlt : i < p
  ·have hX2 := hX.below (hb0.mono hB)
   obtain ⟨ad, m, hA, hab, hm, hcm⟩ := hX2.atf hlt
   have hml := (limbs_dig a).get hm
   have htk := dv_take_succ (β := 4294967296) hm
   have hlow : dv 4294967296 (l0.drop (i + q)) = 0 := by
    apply dv_high hd0 (by omega)
    rw [hv0, Nat.pow_add]
    have h1 := dv_lt ((limbs_dig a).take i)
    have h2 := limbs_lt b
    rw [List.length_take, HL.out.1, Nat.min_eq_left (by omega)] at h1
    rw [HL.out.2.1] at h2
    exact Nat.mul_lt_mul'' h1 h2
   have HV0 := lh (And.intro hv0 (And.intro hl0 (And.intro htk hm)))
   unfold u32v at hcm
   have hi2 : (i : Int) < (p : Int) := by omega
   clear hv0 hl0 htk hm
   subst hA
   go_wp2_with fail
   obtain ⟨wo, hwo⟩ : ∃ wo : World, wo = wr := ⟨_, rfl⟩
   rw [<- hwo] at hb0 hr0 hX2 hcm ⊢
   clear hwo
   go_loopw [7, 8] (fun c j wr => ∃ t c' : Nat, t <= q /\ c' < 4294967296 /\ j = .int .i64 t /\ c = .int .u64 c' /\ RMul2 w g L (dv 4294967296 ((limbs a).take i) * b + m * dv 4294967296 ((limbs b).take t) * 4294967296 ^ i) (i + t) c' (i + q) wr) (fun _ j _ => q - (intOf j).toNat)
   case atStart =>
    exact ⟨0, 0, Nat.zero_le _, by omega, rfl, rfl, l0, HV0.out.2.1, hr0, hd0, by rw [HV0.out.1]; simp [dv], hlow, hb0⟩
   case round =>
    obtain ⟨t, c, ht, hcl, rfl, rfl, l, hl, hr, hd, hv, htop, hb⟩ := hrel
    rename World => wv
    clear hr0 hd0 hlow hX2 hcm
    have HV := lh (And.intro hv (And.intro hl htop))
    clear hv hl htop
    by_cases hlt2 : t < q
    ·have hX3 := hX.below (hb.mono hB)
     obtain ⟨ad', m', hA', _, hm', hcm⟩ := hX3.atf hlt
     obtain rfl := Option.some.inj hA'
     have hmm : m' = m := by have h1 := HV0.out.2.2.2; rw [hm'] at h1; exact Option.some.inj h1
     subst hmm
     unfold u32v at hcm
     have hY2 := hY.below (hb.mono hB)
     obtain ⟨ad2, n, hA2, hab2, hn, hcn⟩ := hY2.atf hlt2
     have hnl := (limbs_dig b).get hn
     have htk2 := dv_take_succ (β := 4294967296) hn
     have hpL2 : i + t < L := by have := HL.out; omega
     obtain ⟨x, hx⟩ : ∃ x, l[i + t]? = some x := ⟨_, List.getElem?_eq_getElem (by rw [HV.out.2.1]; exact hpL2)⟩
     have hxl := hd.get hx
     obtain ⟨S, P, V, V1, V2, f1, f2, f3, f4, f5, hV1, hV2, hkey⟩ := mulL_key hml hnl hxl hcl
     have hnew := add_step (s := V1) (c' := V2) (b := m' * n) hx hkey HV.out.1
     have hnew2 : dv 4294967296 (l.set (i + t) V1) + V2 * 4294967296 ^ (i + (t + 1)) = dv 4294967296 ((limbs a).take i) * b + m' * dv 4294967296 ((limbs b).take (t + 1)) * 4294967296 ^ i := by
      rw [<- Nat.add_assoc, hnew, htk2, Nat.mul_add, Nat.add_mul, Nat.pow_add, Nat.add_assoc]
      congr 2
      rw [Nat.mul_comm (4294967296 ^ i), Nat.mul_assoc, Nat.mul_assoc, Nat.mul_assoc]
     obtain ⟨j, hj⟩ : ∃ j, i + t = j := ⟨_, rfl⟩
     rw [hj] at hx hpL2
     have hcx := hr.cell hx
     have hfx := hr.frozen j
     have HF : Hid (∀ z, RMul2 w g L (dv 4294967296 ((limbs a).take i) * b + m' * dv 4294967296 ((limbs b).take (t + 1)) * 4294967296 ^ i) (i + (t + 1)) V2 (i + q) ((wv.drewN z).setCell ⟨g, j, none⟩ (u32v V1))) := lh fun z => by
      refine ⟨l.set j V1, by rw [List.length_set]; exact HV.out.2.1, (hr.drewN z).set_ j V1, hd.set_ _ hV1, by rw [<- hj]; exact hnew2, ?_, (bdrewN hb z).setCell hgg _⟩
      rw [List.drop_set_of_lt (by omega)]
      exact HV.out.2.2
     have k0 : (i : Int) + (t : Int) = (j : Int) := by omega
     have k1 : IntKind.i64.wrap (j : Int) = (j : Int) := IntWalk.i64_in _ (by omega)
     have k2 : (j : Int) < (L : Int) := by omega
     have k4 : (t : Int) < (q : Int) := by omega
     have u1 : IntKind.u64.wrap (x : Int) = (x : Int) := by rw [wrap_u64_of _ (by omega) (by omega)]
     have u2 : IntKind.u64.wrap (m' : Int) = (m' : Int) := by rw [wrap_u64_of _ (by omega) (by omega)]
     have u3 : IntKind.u64.wrap (n : Int) = (n : Int) := by rw [wrap_u64_of _ (by omega) (by omega)]
     unfold u32v at hcx hcn
     clear hkey hnew hnew2 hx hn htk2 hd hb hY2 hX3 hm' hj hr
     subst hA2
     go_wp2_with fail
     go_quiet (fail)
     go_wp2
     exact ⟨⟨t + 1, V2, by omega, hV2, by go_num, rfl, HF.out _⟩, by simp [intOf]; omega⟩
    obtain rfl : t = q := by omega
    have hpL2 : i + t < L := by have := HL.out; omega
    obtain ⟨x, hx⟩ : ∃ x, l[i + t]? = some x := ⟨_, List.getElem?_eq_getElem (by rw [HV.out.2.1]; exact hpL2)⟩
    have hx0 : x = 0 := dv_zero (by omega) HV.out.2.2 (k := 0) (by rw [List.getElem?_drop]; exact hx)
    subst hx0
    have hst := dv_set (β := 4294967296) c hx
    have hnew : dv 4294967296 (l.set (i + t) c) = dv 4294967296 ((limbs a).take (i + 1)) * b := by
     have h1 := HV.out.1
     rw [limb_out (a := b) (k := t) (by rw [HL.out.2.1]; omega)] at h1
     rw [HV0.out.2.2.1, Nat.add_mul]
     have h2 : m * b * 4294967296 ^ i = m * 4294967296 ^ i * b := by rw [Nat.mul_right_comm]
     omega
    obtain ⟨j, hj⟩ : ∃ j, i + t = j := ⟨_, rfl⟩
    rw [hj] at hx hpL2 hnew
    have hcx := hr.cell hx
    have hfx := hr.frozen j
    have hfin : RMul w g L (dv 4294967296 ((limbs a).take (i + 1)) * b) (wv.setCell ⟨g, j, none⟩ (u32v c)) :=
     ⟨l.set j c, by rw [List.length_set]; exact HV.out.2.1, hr.set_ j c, hd.set_ _ hcl, hnew, hb.setCell hgg _⟩
    have HFIN := lh hfin
    have k0 : (i : Int) + (t : Int) = (j : Int) := by omega
    have k2 : (j : Int) < (L : Int) := by omega
    have k4 : ¬ (t : Int) < (t : Int) := by omega
    have u1 : IntKind.u32.wrap (c : Int) = (c : Int) := by rw [wrap_u32_nat, Nat.mod_eq_of_lt hcl]
    unfold u32v at hcx
    clear hst hnew hfin hx hd hb hj hr
    go_wp2
    exact ⟨⟨i + 1, by omega, by go_num, HFIN.out⟩, by simp [intOf]; omega⟩
  obtain rfl : i = p := by omega
  rw [limb_out (by rw [HL.out.1]; omega)] at hv0
  have hrd := hr0.reads
  rw [hl0] at hrd
  have HF := lh (And.intro hd0 (And.intro hv0 (And.intro hr0.ty hr0.lt)))
  clear hd0 hv0 hr0 hl0
  have k4 : ¬ (i : Int) < (i : Int) := by omega
  go_wp2_with fail
  refine (ref_trim (some ⟨g, 0, none⟩) L L _ l0 wr hrd (by omega) (by omega)).mono ?_
  rintro e w5 ⟨rfl, rfl⟩
  go_wp2
  go_ret
  exact ⟨_, rfl, (IsN.trim hrd (by omega) (by omega) HF.out.1 HF.out.2.1 HF.out.2.2.1).more (by have := HF.out.2.2.2; omega), hb0⟩
end Go.Proofs.YtecnjlcfoobepaaGreatDoor
