/-
  The document's NatAdd, NatSub.
-/
import Derived.Test.YtjmbpnogicdkgaaGreatDoorRefShift
namespace Go.Proofs.YtjmbpnogicdkgaaGreatDoor
open Go.RowKit
set_option linter.unusedSimpArgs false
set_option linter.unusedVariables false

theorem quiet_back {P : Program} {f : FuncId} {args : Array Value} {w : World} {n : Nat} {v : Value} (h : Calls P f args (w.drewN n) fun e w' => e = .returned v ∧ w.drewN n = w') : Calls P f args (w.drewN n) fun e w'' => e = .returned v ∧ ∃ m, w'' = w.drewN m :=
  h.mono fun _ _ ⟨he, hm⟩ => ⟨he, n, hm.symm⟩
theorem set_pre {p : List Nat} {k m x : Nat} (hk : p.length = k) : (p ++ List.replicate (m + 1) 0).set k x = (p ++ [x]) ++ List.replicate m 0 := by
  subst hk
  rw [List.set_append_right _ _ (Nat.le_refl _), Nat.sub_self, List.replicate_succ, List.set_cons_zero, List.append_assoc]
  rfl
theorem get_pre {p : List Nat} {k m : Nat} (hk : p.length = k) : (p ++ List.replicate (m + 1) 0)[k]? = some 0 := by
  subst hk
  rw [List.getElem?_append_right (Nat.le_refl _), Nat.sub_self, List.replicate_succ]
  rfl
theorem dv_pre {p : List Nat} {m : Nat} : dv 4294967296 (p ++ List.replicate m 0) = dv 4294967296 p := by
  rw [dv_append, dv_rep]
  simp
theorem limb_out {a k : Nat} (h : (limbs a).length ≤ k) : dv 4294967296 ((limbs a).take k) = a := by rw [List.take_of_length_le h, dv_limbs]
theorem limb_max {a b n : Nat} (h1 : (limbs a).length ≤ n) (h2 : (limbs b).length ≤ n) : a + b < 2 * 4294967296 ^ n := by
  have e1 := Nat.lt_of_lt_of_le (limbs_lt a) (Nat.pow_le_pow_right (show 0 < 4294967296 by omega) h1)
  have e2 := Nat.lt_of_lt_of_le (limbs_lt b) (Nat.pow_le_pow_right (show 0 < 4294967296 by omega) h2)
  omega
/-- so many limbs are written, c is carried -/
def AddR (w : World) (g n X k c : Nat) (wr : World) : Prop :=
  ∃ p : List Nat, p.length = k ∧ Dig 4294967296 p ∧ Row wr g 150 u32v (p ++ List.replicate (n + 1 - k) 0) ∧ dv 4294967296 p + c * 4294967296 ^ k = X ∧ Below w.heap.size w wr
set_option maxRecDepth 100000 in
set_option maxHeartbeats 1000000 in
theorem ref_natAdd (a b B : Nat) (va vb : Value) (w : World) (h : IsN w B va a) (h' : IsN w B vb b) (hB : B ≤ w.heap.size) (hla : (limbs a).length ≤ 34359738368) (hlb : (limbs b).length ≤ 34359738368) :
    Calls Tryz.prog 124 #[va, vb] w (RetN (a + b) w) := by
  obtain ⟨A1, c1, rfl, hac, hac2, hr1, _⟩ := h
  obtain ⟨A2, c2, rfl, hbc, hbc2, hr2, _⟩ := h'
  obtain ⟨p, hp⟩ : ∃ p, (limbs a).length = p := ⟨_, rfl⟩
  obtain ⟨q, hq⟩ : ∃ q, (limbs b).length = q := ⟨_, rfl⟩
  rw [hp] at hr1 hac hla
  rw [hq] at hr2 hbc hlb
  rw [hp, hq]
  obtain ⟨n, hn⟩ : ∃ n, max p q = n := ⟨_, rfl⟩
  have hnb : n ≤ 34359738368 := by omega
  have m1 : (if (p : Int) < (q : Int) then (q : Int) else (p : Int)) = (n : Int) := by split <;> omega
  have m2 : (if (q : Int) < (p : Int) then (p : Int) else (q : Int)) = (n : Int) := by split <;> omega
  have m3 : max (p : Int) (q : Int) = (n : Int) := by omega
  have hmax := limb_max (a := a) (b := b) (n := n) (by omega) (by omega)
  have HN := Lib.hid (And.intro hp (And.intro hq (And.intro hn hmax)))
  have hpn : p ≤ n := by omega
  have hqn : q ≤ n := by omega
  have HR1 := Lib.hid hr1
  have HR2 := Lib.hid hr2
  clear hp hq hn hmax hr1 hr2
  have hmk := make_row (P := Tryz.prog) u32v 0 32 150 4 Tryz.underlying32 Tryz.infoU32 rfl .i64 .i64 (n + 1) (by omega) (by omega)
  have m4 : ((n + 1 : Nat) : Int) = (n : Int) + 1 := by omega
  rw [m4] at hmk
  clear m4
  go_enter Tryz.func124, Tryz.ntmps124
  go_wp2_with fail
  clear hmk m1 m2 m3
  have hrow := Row.rep w 150 u32v 0 (n + 1)
  have hbel0 := balloc1 w (.cells (Array.replicate (n + 1) (u32v 0)) 150)
  obtain ⟨g, hg⟩ : ∃ g, w.heap.size = g := ⟨_, rfl⟩
  have hgw : w.heap.size ≤ g := by omega
  have HG := Lib.hid hg
  rw [hg] at hrow
  rw [hg]
  clear hg
  go_loopw [7, 8] (fun cc i wr => ∃ k c : Nat, k ≤ n + 1 ∧ i = .int .i64 (k : Int) ∧ cc = .int .u64 (c : Int) ∧ c ≤ 1 ∧ AddR w g n (dv 4294967296 ((limbs a).take k) + dv 4294967296 ((limbs b).take k)) k c wr) (fun _ i _ => n + 1 - (intOf i).toNat)
  case atStart => exact ⟨0, 0, by omega, rfl, rfl, by omega, [], rfl, Dig.nil, by simpa using hrow, by simp [dv], hbel0⟩
  case round =>
    obtain ⟨k, c, hk, rfl, rfl, hc, pl, hpl, hpd, hpr, hpv, hbel⟩ := hrel
    rename World => wr
    clear hrow hbel0
    by_cases hlt : k ≤ n
    · have hat1 := ref_at A1 p c1 B k (limbs a) wr (HR1.out.below (hbel.mono hB)) (by omega) (limbs_dig a) (by omega)
      have hat2 := ref_at A2 q c2 B k (limbs b) wr (HR2.out.below (hbel.mono hB)) (by omega) (limbs_dig b) (by omega)
      have hxl := limb_lt a k
      have hyl := limb_lt b k
      have ht1 := limb_take a k
      have ht2 := limb_take b k
      obtain ⟨x, hx⟩ : ∃ x, (limbs a).getD k 0 = x := ⟨_, rfl⟩
      obtain ⟨y, hy⟩ : ∃ y, (limbs b).getD k 0 = y := ⟨_, rfl⟩
      rw [hx] at hat1 hxl ht1
      rw [hy] at hat2 hyl ht2
      obtain ⟨S, hS⟩ : ∃ S, c + x = S := ⟨_, rfl⟩
      obtain ⟨V, hV⟩ : ∃ V, S + y = V := ⟨_, rfl⟩
      obtain ⟨V1, hV1⟩ : ∃ V1, V % 4294967296 = V1 := ⟨_, rfl⟩
      obtain ⟨V2, hV2⟩ : ∃ V2, V / 4294967296 = V2 := ⟨_, rfl⟩
      have f1 : IntKind.u64.wrap ((c : Int) + (x : Int)) = (S : Int) := by rw [wrap_u64_of _ (by omega) (by omega)]; omega
      have f2 : IntKind.u64.wrap ((S : Int) + (y : Int)) = (V : Int) := by rw [wrap_u64_of _ (by omega) (by omega)]; omega
      have f3 : IntKind.u32.wrap (V : Int) = (V1 : Int) := by rw [wrap_u32_nat, hV1]
      have f4 : (V : Int) / 4294967296 = (V2 : Int) := by omega
      have hrep : n + 1 - k = (n - k) + 1 := by omega
      rw [hrep] at hpr
      have hfz := hpr.frozen k
      have hcl := hpr.cell (get_pre (m := n - k) hpl)
      unfold u32v at hcl
      have hst := hpr.set_ k V1
      rw [set_pre hpl] at hst
      have hnew : dv 4294967296 (pl ++ [V1]) + V2 * 4294967296 ^ (k + 1) = dv 4294967296 ((limbs a).take (k + 1)) + dv 4294967296 ((limbs b).take (k + 1)) := by
        rw [dv_append, hpl, dv_cons, dv_nil, Nat.mul_zero, Nat.add_zero, ht1, ht2]
        have e1 : V2 * 4294967296 ^ (k + 1) = 4294967296 ^ k * (4294967296 * V2) := by rw [Nat.pow_succ, Nat.mul_comm V2, Nat.mul_assoc]
        have e2 : V1 + 4294967296 * V2 = c + x + y := by omega
        rw [e1, Nat.add_assoc, ← Nat.mul_add, e2, Nat.mul_add, Nat.mul_add, Nat.mul_comm _ c, Nat.mul_comm _ x, Nat.mul_comm _ y]
        omega
      have HF : Hid (AddR w g n (dv 4294967296 ((limbs a).take (k + 1)) + dv 4294967296 ((limbs b).take (k + 1))) (k + 1) V2 (wr.setCell ⟨g, k, none⟩ (u32v V1))) :=
        Lib.hid ⟨pl ++ [V1], by simp [hpl], hpd.append (Dig.cons (by omega) Dig.nil), by rw [show n + 1 - (k + 1) = n - k from by omega]; exact hst, hnew, hbel.setCell hgw _⟩
      have hV2l : V2 ≤ 1 := by omega
      have HAT1 := Lib.hid hat1
      have HAT2 := Lib.hid hat2
      have g1 : (k : Int) ≤ (n : Int) := by omega
      have g2 : (k : Int) < (n : Int) + 1 := by omega
      clear hat1 hat2 hx hy hS hV hV1 hV2 hst hnew ht1 ht2 hpr hpd hpv hrep
      go_wp2_with fail
      refine HAT1.out.mono ?_
      rintro e w1 ⟨rfl, rfl⟩
      go_wp2_with fail
      refine HAT2.out.mono ?_
      rintro e w1 ⟨rfl, rfl⟩
      go_wp2
      exact ⟨⟨k + 1, V2, by omega, by go_num, rfl, hV2l, HF.out⟩, by simp [intOf]; omega⟩
    · obtain rfl : k = n + 1 := by omega
      rw [limb_out (by have := HN.out; omega), limb_out (by have := HN.out; omega)] at hpv
      have hc0 : c = 0 := by
        have h1 := HN.out.2.2.2
        rcases Nat.eq_zero_or_pos c with h0 | h0
        · exact h0
        · exfalso
          have h2 : 1 * 4294967296 ^ (n + 1) ≤ c * 4294967296 ^ (n + 1) := Nat.mul_le_mul_right _ h0
          rw [Nat.pow_succ] at h2
          rw [Nat.pow_succ] at hpv
          have h3 : 0 < 4294967296 ^ n := Nat.pow_pos (by omega)
          omega
      subst hc0
      rw [Nat.zero_mul, Nat.add_zero] at hpv
      rw [Nat.sub_self, List.replicate_zero, List.append_nil] at hpr
      have hrd := hpr.reads
      rw [hpl] at hrd
      have g1 : ¬ ((n : Int) + 1 ≤ (n : Int)) := by omega
      have HF := Lib.hid (And.intro hpd (And.intro hpv (And.intro hpr.ty hpr.lt)))
      clear hpv hpd hpr
      go_wp2_with fail
      refine (ref_trim (some ⟨g, 0, none⟩) (n + 1) (n + 1) _ pl wr hrd (by omega) (by omega)).mono ?_
      rintro e w5 ⟨rfl, rfl⟩
      go_wp2
      go_ret
      exact ⟨_, rfl, (IsN.trim hrd (by omega) (by omega) HF.out.1 HF.out.2.1 HF.out.2.2.1).more (by have := HF.out.2.2.2; omega), hbel⟩
/-- so many limbs of the difference are written, c is borrowed -/
def SubR (w : World) (g n X Y k c : Nat) (wr : World) : Prop :=
  ∃ p : List Nat, p.length = k ∧ Dig 4294967296 p ∧ Row wr g 150 u32v (p ++ List.replicate (n - k) 0) ∧ dv 4294967296 p + Y = X + c * 4294967296 ^ k ∧ Below w.heap.size w wr
theorem subL_key {x y c : Nat} (hx : x < 4294967296) (hy : y < 4294967296) (hc : c ≤ 1) : ∃ d s c' : Nat, IntKind.u64.wrap (IntKind.u64.wrap ((x : Int) - (y : Int)) - (c : Int)) = (d : Int) ∧ IntKind.u32.wrap (d : Int) = (s : Int) ∧ (d : Int) / 9223372036854775808 = (c' : Int) ∧ s < 4294967296 ∧ c' ≤ 1 ∧ s + y + c = x + 4294967296 * c' := by
  by_cases h : y + c ≤ x
  · refine ⟨x - y - c, x - y - c, 0, ?_, ?_, by omega, by omega, by omega, by omega⟩
    · rw [wrap_u64_of ((x : Int) - (y : Int)) (by omega) (by omega), wrap_u64_of _ (by omega) (by omega)]
      omega
    · rw [wrap_u32_nat, Nat.mod_eq_of_lt (by omega)]
  · refine ⟨18446744073709551616 + x - y - c, 4294967296 + x - y - c, 1, ?_, ?_, by omega, by omega, by omega, by omega⟩
    · simp only [IntKind.wrap, IntKind.bits, IntKind.signed]
      simp
      omega
    · rw [wrap_u32_nat]
      congr 1
      omega
set_option maxRecDepth 100000 in
set_option maxHeartbeats 1000000 in
theorem ref_natSub (a b B : Nat) (va vb : Value) (w : World) (h : IsN w B va a) (h' : IsN w B vb b) (hB : B ≤ w.heap.size) (hla : (limbs a).length ≤ 34359738368) (hba : b ≤ a) :
    Calls Tryz.prog 125 #[va, vb] w (RetN (a - b) w) := by
  obtain ⟨A1, c1, rfl, hac, hac2, hr1, _⟩ := h
  obtain ⟨A2, c2, rfl, hbc, hbc2, hr2, _⟩ := h'
  have hlb := limbs_mono hba
  obtain ⟨n, hn⟩ : ∃ n, (limbs a).length = n := ⟨_, rfl⟩
  obtain ⟨q, hq⟩ : ∃ q, (limbs b).length = q := ⟨_, rfl⟩
  rw [hn] at hr1 hac hla hlb
  rw [hq] at hr2 hbc hlb
  rw [hn, hq]
  have HN := Lib.hid (And.intro hn (And.intro hq hba))
  have HR1 := Lib.hid hr1
  have HR2 := Lib.hid hr2
  clear hn hq hr2
  have hmk := make_row (P := Tryz.prog) u32v 0 32 150 4 Tryz.underlying32 Tryz.infoU32 rfl .i64 .i64 n (by omega) (by omega)
  go_enter Tryz.func125, Tryz.ntmps125
  go_wp2_with fail
  clear hmk
  have hrow := Row.rep w 150 u32v 0 n
  have hbel0 := balloc1 w (.cells (Array.replicate n (u32v 0)) 150)
  obtain ⟨g, hg⟩ : ∃ g, w.heap.size = g := ⟨_, rfl⟩
  have hgw : w.heap.size ≤ g := by omega
  have HG := Lib.hid hg
  rw [hg] at hrow
  rw [hg]
  clear hg
  go_loopw [6, 7] (fun cc i wr => ∃ k c : Nat, k ≤ n ∧ i = .int .i64 (k : Int) ∧ cc = .int .u64 (c : Int) ∧ c ≤ 1 ∧ SubR w g n (dv 4294967296 ((limbs a).take k)) (dv 4294967296 ((limbs b).take k)) k c wr) (fun _ i _ => n - (intOf i).toNat)
  case atStart => exact ⟨0, 0, by omega, rfl, rfl, by omega, [], rfl, Dig.nil, by simpa using hrow, by simp [dv], hbel0⟩
  case round =>
    obtain ⟨k, c, hk, rfl, rfl, hc, pl, hpl, hpd, hpr, hpv, hbel⟩ := hrel
    rename World => wr
    clear hrow hbel0
    by_cases hlt : k < n
    · obtain ⟨ad, x, hA, hb1, hx, hcell⟩ := (HR1.out.below (hbel.mono hB)).atf hlt
      subst hA
      unfold u32v at hcell
      have hat2 := fun m => ref_at A2 q c2 B k (limbs b) (wr.drewN m) ((HR2.out.below (hbel.mono hB)).drewN m) (by omega) (limbs_dig b) (by omega)
      have hxl := (limbs_dig a).get hx
      have hyl := limb_lt b k
      have ht1 := dv_take_succ (β := 4294967296) hx
      have ht2 := limb_take b k
      obtain ⟨y, hy⟩ : ∃ y, (limbs b).getD k 0 = y := ⟨_, rfl⟩
      rw [hy] at hat2 hyl ht2
      obtain ⟨d, s, c', f1, f2, f3, hsl, hcl', hkey⟩ := subL_key hxl hyl hc
      have f0 : IntKind.u64.wrap (x : Int) = (x : Int) := by rw [wrap_u64_of _ (by omega) (by omega)]
      have hrep : n - k = (n - (k + 1)) + 1 := by omega
      rw [hrep] at hpr
      have hfz := hpr.frozen k
      have hcl := hpr.cell (get_pre (m := n - (k + 1)) hpl)
      unfold u32v at hcl
      have hst : ∀ m, Row ((wr.drewN m).setCell ⟨g, k, none⟩ (u32v s)) g 150 u32v ((pl ++ [s]) ++ List.replicate (n - (k + 1)) 0) := fun m => by
        have := (hpr.drewN m).set_ k s
        rw [set_pre hpl] at this
        exact this
      have hnew : dv 4294967296 (pl ++ [s]) + dv 4294967296 ((limbs b).take (k + 1)) = dv 4294967296 ((limbs a).take (k + 1)) + c' * 4294967296 ^ (k + 1) := by
        rw [dv_append, hpl, dv_cons, dv_nil, Nat.mul_zero, Nat.add_zero, ht1, ht2]
        have e1 : c' * 4294967296 ^ (k + 1) = (4294967296 * c') * 4294967296 ^ k := by rw [Nat.pow_succ, Nat.mul_comm (4294967296 ^ k), ← Nat.mul_assoc, Nat.mul_comm c']
        have e2 : 4294967296 ^ k * s + y * 4294967296 ^ k + c * 4294967296 ^ k = x * 4294967296 ^ k + 4294967296 * c' * 4294967296 ^ k := by
          rw [Nat.mul_comm _ s, ← Nat.add_mul, ← Nat.add_mul, hkey, Nat.add_mul]
        rw [e1]
        omega
      have HF : Hid (∀ m, SubR w g n (dv 4294967296 ((limbs a).take (k + 1))) (dv 4294967296 ((limbs b).take (k + 1))) (k + 1) c' ((wr.drewN m).setCell ⟨g, k, none⟩ (u32v s))) :=
        Lib.hid fun m => ⟨pl ++ [s], by simp [hpl], hpd.append (Dig.cons hsl Dig.nil), hst m, hnew, (bdrewN hbel m).setCell hgw _⟩
      have HAT2 := Lib.hid hat2
      have g1 : (k : Int) < (n : Int) := by omega
      clear hat2 hx hy hst hnew ht1 ht2 hpr hpd hpv hrep hkey
      go_wp2_with fail
      go_quiet ((go_at_call 143; exact quiet_back (HAT2.out _)))
      go_wp2
      exact ⟨⟨k + 1, c', by omega, by go_num, rfl, hcl', HF.out _⟩, by simp [intOf]; omega⟩
    · obtain rfl : k = n := by omega
      rw [limb_out (by have := HN.out; omega), limb_out (by have := HN.out; omega)] at hpv
      have hpll := dv_lt hpd
      rw [hpl] at hpll
      have hc0 : c = 0 := by
        have h1 := HN.out.2.2
        rcases Nat.eq_zero_or_pos c with h0 | h0
        · exact h0
        · exfalso
          have h2 : 1 * 4294967296 ^ k ≤ c * 4294967296 ^ k := Nat.mul_le_mul_right _ h0
          omega
      subst hc0
      rw [Nat.zero_mul, Nat.add_zero] at hpv
      rw [Nat.sub_self, List.replicate_zero, List.append_nil] at hpr
      have hpv2 : dv 4294967296 pl = a - b := by omega
      have hrd := hpr.reads
      rw [hpl] at hrd
      have g1 : ¬ ((k : Int) < (k : Int)) := by omega
      have HF := Lib.hid (And.intro hpd (And.intro hpv2 (And.intro hpr.ty hpr.lt)))
      clear hpv hpd hpr hpv2 hpll
      go_wp2_with fail
      refine (ref_trim (some ⟨g, 0, none⟩) k k _ pl wr hrd (by omega) (by omega)).mono ?_
      rintro e w5 ⟨rfl, rfl⟩
      go_wp2
      go_ret
      exact ⟨_, rfl, (IsN.trim hrd (by omega) (by omega) HF.out.1 HF.out.2.1 HF.out.2.2.1).more (by have := HF.out.2.2.2; omega), hbel⟩
end Go.Proofs.YtjmbpnogicdkgaaGreatDoor
