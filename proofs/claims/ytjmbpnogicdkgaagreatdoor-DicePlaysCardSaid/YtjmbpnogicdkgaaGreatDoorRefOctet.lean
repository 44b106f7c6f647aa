/-
  The document's answer of chapter 4: Sum, Count, Seal.
-/
import Derived.Test.YtjmbpnogicdkgaaGreatDoorOctet
namespace Go.Proofs.YtjmbpnogicdkgaaGreatDoor
open Go.RowKit
set_option linter.unusedSimpArgs false
set_option linter.unusedVariables false

set_option maxHeartbeats 400000 in
theorem ref_sum (A : Option Addr) (n c : Nat) (bs : List UInt8) (B : Nat) (w : World) (hr : Bytes w B A n bs) (hn : n ≤ 9223372036854775807) :
    Calls Tryz.prog 106 #[.slice A n c] w fun e w' => e = .returned (.int .u64 ((fnv bs : Nat) : Int)) ∧ w = w' := by
  have hl := hr.len
  go_enter Tryz.func106, Tryz.ntmps106
  go_wp2
  go_loop [3, 4] (fun h i => ∃ k : Nat, k ≤ n ∧ i = .int .i64 k ∧ h = .int .u64 ((fnv (bs.take k) : Nat) : Int)) (fun _ i => n - (intOf i).toNat)
  case atStart => exact ⟨0, Nat.zero_le _, rfl, rfl⟩
  case round =>
    obtain ⟨k, hk, rfl, rfl⟩ := hrel
    by_cases hlt : k < n
    · obtain ⟨ad, x, hA, hb, hx, hc⟩ := hr.at_ hlt
      subst hA
      have e1 := fnvStep_walk (fnv (bs.take k)) x (fnv_lt _)
      have e2 := wrap_u64_byte x
      have HS := Lib.hid (fnv_take bs k x hx)
      clear hx
      go_wp2
      go_round
      case rel => exact ⟨k + 1, by omega, by go_num, by rw [HS.out]⟩
      case measure => simp [intOf]; omega
    · go_wp2
      go_ret
      exact ⟨ret_int (by rw [List.take_of_length_le (by omega)]), rfl⟩
theorem and_u64_127 (m : Nat) (h : m < 18446744073709551616) : bits .and .u64 (m : Int) 127 = ((m % 128 : Nat) : Int) := by
  have e := and_u64 m 127 h (by omega)
  rw [show ((127 : Nat) : Int) = 127 from rfl] at e
  rw [e, show (127 : Nat) = 2 ^ 7 - 1 from rfl, Nat.and_two_pow_sub_one_eq_mod]
theorem or_u8_128 (d : Nat) (h : d < 128) : bits .or .u8 (d : Int) 128 = ((UInt8.ofNat (d + 128)).toNat : Int) := by
  have e := or_u8 d 128 (by omega) (by omega)
  rw [show ((128 : Nat) : Int) = 128 from rfl] at e
  rw [e, or128 d (by omega), UInt8.toNat_ofNat']
  omega

set_option maxRecDepth 100000 in
set_option maxHeartbeats 400000 in
theorem ref_count (v : Value) (l : List UInt8) (z : Int) (n : Nat) (hz : z.toNat = n) (w : World) (ho : Own w 5 u8v v l) (hn : n ≤ 9223372036854775807) (hl : l.length ≤ 1099511627776) :
    Calls Tryz.prog 59 #[v, .int .i64 z] w fun e w' => ∃ v', e = .returned v' ∧ Own w' 5 u8v v' (l ++ countB n) ∧ Grew w w' v v' := by
  obtain ⟨A, c, rfl, hc1, hc2⟩ := ho.form
  have hmx : (if z < 0 then (0 : Int) else z) = (n : Int) := by split <;> omega
  have hmx2 : (if (0 : Int) < z then z else 0) = (n : Int) := by split <;> omega
  have hmx3 : max z 0 = (n : Int) := by omega
  have hmx4 : max 0 z = (n : Int) := by omega
  clear hz
  go_enter Tryz.func59, Tryz.ntmps59
  go_wp2
  clear hmx hmx2 hmx3 hmx4
  go_loopw [0, 5] (fun v x wr => ∃ m : Nat, m ≤ n ∧ x = .int .u64 m ∧ CountRel w (.slice A l.length c) (l ++ countB n) m v wr) (fun _ x _ => (intOf x).toNat)
  case atStart => exact ⟨n, Nat.le_refl _, rfl, 9, l, by omega, rfl, ho, Grew.refl _ _⟩
  case round =>
    obtain ⟨m, hm, rfl, f, l1, hm2, hl1, ho1, hg1⟩ := hrel
    obtain ⟨A1, c1, rfl, hc3, hc4⟩ := ho1.form
    have hlen := congrArg List.length hl1
    have hcl := countF_len 9 n
    have hll : l1.length ≤ 1099511627786 := by
      simp only [List.length_append, countB] at hlen
      omega
    have HL1 := Lib.hid hl1
    have HM2 := Lib.hid hm2
    clear hl1 hlen hcl hm2 ho hc1 hc2
    by_cases hlt : m < 128
    · have HX : Hid (.int .u8 (m : Int) = u8v (UInt8.ofNat m)) := by
        show .int .u8 (m : Int) = u8v (UInt8.ofNat m)
        unfold u8v
        rw [UInt8.toNat_ofNat', Nat.mod_eq_of_lt (by omega)]
      go_wp2_with (at_builtin; refine app1 Tryz.eltU8 rfl (.tmp 20) (.tmp 23) rfl wr _ l1 (UInt8.ofNat m) _ HX.out rfl ho1 rfl (u8v_one _) ?c1 ?c2 ?_)
      case c1 => unfold maxLen; omega
      case c2 => omega
      intro v' w1 hown' hgr
      go_wp2
      go_ret
      refine ⟨v', rfl, ?_, hg1.trans hgr⟩
      have := HL1.out
      rw [countF_small _ _ hlt] at this
      rw [← this]
      exact hown'
    · have e1 := and_u64_127 m (by omega)
      obtain ⟨d, hd⟩ : ∃ d, m % 128 = d := ⟨_, rfl⟩
      have hd2 : d < 128 := by omega
      rw [hd] at e1
      have e2 := or_u8_128 d hd2
      obtain ⟨x, hx⟩ : ∃ x, UInt8.ofNat (d + 128) = x := ⟨_, rfl⟩
      rw [hx] at e2
      have HX := Lib.hid (And.intro hd hx)
      clear hx hd
      obtain ⟨g, rfl⟩ : ∃ g, f = g + 1 := by
        cases f with
        | zero => have := HM2.out; omega
        | succ g => exact ⟨g, rfl⟩
      go_wp2_with (at_builtin; refine app1 Tryz.eltU8 rfl (.tmp 11) (.tmp 16) rfl wr _ l1 x _ rfl rfl ho1 rfl (u8v_one _) ?d1 ?d2 ?_)
      case d1 => unfold maxLen; omega
      case d2 => omega
      intro v' w1 hown' hgr
      go_wp2
      have h1 := HL1.out
      rw [countF_big _ _ hlt, HX.out.1, HX.out.2] at h1
      have h2 := HM2.out
      refine ⟨⟨m / 128, by omega, by go_num, g, l1 ++ [x], ?_, by rw [List.append_assoc]; exact h1, hown', hg1.trans hgr⟩, by simp [intOf]; omega⟩
      rw [Nat.pow_succ] at h2
      omega
end Go.Proofs.YtjmbpnogicdkgaaGreatDoor
