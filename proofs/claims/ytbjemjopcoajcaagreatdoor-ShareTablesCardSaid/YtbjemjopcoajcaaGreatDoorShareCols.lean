/-
  math/bits.OnesCount of a set of at most ten columns.
  share.columns.
  The document's Columns.
-/
import Derived.Test.YtbjemjopcoajcaaGreatDoorProg
import Derived.Test.YtbjemjopcoajcaaGreatDoorMem
import Derived.Test.YtbjemjopcoajcaaGreatDoorMathA
import Derived.Test.YtbjemjopcoajcaaGreatDoorShareMath
/-! math/bits.OnesCount of a set of at most ten columns. -/
namespace Go.Proofs.YtbjemjopcoajcaaGreatDoor
open Go.RowKit
set_option linter.unusedSimpArgs false
set_option linter.unusedVariables false

theorem ones64 (x : Nat) (w : World) (hx : x < 1024) : Calls Tryz.prog 75 #[.int .u64 (x : Int)] w fun e w' => e = .returned (.int .i64 (ones x : Int)) ∧ w = w' := by
  go_enter Tryz.func75, Tryz.ntmps75
  go_wp2
  go_ret
  refine ⟨ret_int ?_, rfl⟩
  clear w
  revert hx
  revert x
  decide +kernel
theorem bits_ones (x : Nat) (w : World) (hx : x < 1024) : Calls Tryz.prog 38 #[.int .u64 (x : Int)] w fun e w' => e = .returned (.int .i64 (ones x : Int)) ∧ w = w' := by
  go_enter Tryz.func38, Tryz.ntmps38
  go_wp2_with fail
  refine (ones64 x w hx).mono ?_
  rintro e w' ⟨rfl, rfl⟩
  go_wp2
  go_ret
  exact ⟨rfl, rfl⟩
end Go.Proofs.YtbjemjopcoajcaaGreatDoor

/-! share.columns. -/
namespace Go.Proofs.YtbjemjopcoajcaaGreatDoor
open Go.RowKit
set_option linter.unusedSimpArgs false
set_option linter.unusedVariables false

theorem pow_cast (k : Nat) : (2 : Int) ^ k = ((2 ^ k : Nat) : Int) := by rw [Int.natCast_pow]; rfl
theorem pow_wrap {k : Nat} (h : k ≤ 20) : IntKind.i64.wrap ((2 : Int) ^ k) = (2 : Int) ^ k := by
  have h1 : 2 ^ k ≤ 2 ^ 20 := Nat.pow_le_pow_right (n := 2) (by omega) h
  rw [pow_cast]
  generalize 2 ^ k = x at *
  have h2 : x ≤ 1048576 := h1
  clear h1
  exact IntWalk.i64_in _ (by omega)
theorem and_i64n (a b : Nat) (ha : a < 4611686018427387904) (hb : b < 4611686018427387904) : bits .and .i64 (a : Int) (b : Int) = ((a &&& b : Nat) : Int) := by
  have h : a &&& b < 2 ^ 62 := Nat.and_lt_two_pow _ (by omega)
  have ha' : a % 2 ^ 64 = a := Nat.mod_eq_of_lt (by omega)
  have hb' : b % 2 ^ 64 = b := Nat.mod_eq_of_lt (by omega)
  have e : bits .and .i64 (a : Int) (b : Int) = IntKind.i64.wrap (((BitVec.ofInt 64 (a : Int)) &&& (BitVec.ofInt 64 (b : Int))).toNat : Int) := rfl
  rw [e, BitVec.ofInt_natCast, BitVec.ofInt_natCast, BitVec.toNat_and, BitVec.toNat_ofNat, BitVec.toNat_ofNat, ha', hb', IntWalk.i64_in _ (by omega)]
theorem or_i64n (a b : Nat) (ha : a < 4611686018427387904) (hb : b < 4611686018427387904) : bits .or .i64 (a : Int) (b : Int) = ((a ||| b : Nat) : Int) := by
  have h : a ||| b < 2 ^ 62 := Nat.or_lt_two_pow (by omega) (by omega)
  have ha' : a % 2 ^ 64 = a := Nat.mod_eq_of_lt (by omega)
  have hb' : b % 2 ^ 64 = b := Nat.mod_eq_of_lt (by omega)
  have e : bits .or .i64 (a : Int) (b : Int) = IntKind.i64.wrap (((BitVec.ofInt 64 (a : Int)) ||| (BitVec.ofInt 64 (b : Int))).toNat : Int) := rfl
  rw [e, BitVec.ofInt_natCast, BitVec.ofInt_natCast, BitVec.toNat_or, BitVec.toNat_ofNat, BitVec.toNat_ofNat, ha', hb', IntWalk.i64_in _ (by omega)]
theorem xor_i64n (a b : Nat) (ha : a < 4611686018427387904) (hb : b < 4611686018427387904) : bits .xor .i64 (a : Int) (b : Int) = ((a ^^^ b : Nat) : Int) := by
  have h : a ^^^ b < 2 ^ 62 := Nat.xor_lt_two_pow (by omega) (by omega)
  have ha' : a % 2 ^ 64 = a := Nat.mod_eq_of_lt (by omega)
  have hb' : b % 2 ^ 64 = b := Nat.mod_eq_of_lt (by omega)
  have e : bits .xor .i64 (a : Int) (b : Int) = IntKind.i64.wrap (((BitVec.ofInt 64 (a : Int)) ^^^ (BitVec.ofInt 64 (b : Int))).toNat : Int) := rfl
  rw [e, BitVec.ofInt_natCast, BitVec.ofInt_natCast, BitVec.toNat_xor, BitVec.toNat_ofNat, BitVec.toNat_ofNat, ha', hb', IntWalk.i64_in _ (by omega)]
/-- the test of a bit, as a walk has it -/
theorem bit_walk (k c : Nat) (hk : k < 4611686018427387904) : bits .and .i64 ((k : Int) / 2 ^ c) 1 = ((k / 2 ^ c % 2 : Nat) : Int) := by
  have h := and_i64n (k / 2 ^ c) 1 (Nat.lt_of_le_of_lt (Nat.div_le_self _ _) hk) (by omega)
  rw [Nat.and_one_is_mod, Int.natCast_ediv, ← pow_cast] at h
  exact h
theorem bit_eq0 {k c : Nat} (hk : k < 4611686018427387904) : (bits .and .i64 ((k : Int) / 2 ^ c) 1 == 0) = !bitOn k c := by
  rw [bit_walk k c hk]
  unfold bitOn
  have : k / 2 ^ c % 2 = 0 ∨ k / 2 ^ c % 2 = 1 := by omega
  rcases this with h | h <;> rw [h] <;> rfl
theorem bit_eq1 {k c : Nat} (hk : k < 4611686018427387904) : (bits .and .i64 ((k : Int) / 2 ^ c) 1 == 1) = bitOn k c := by
  rw [bit_walk k c hk]
  unfold bitOn
  have : k / 2 ^ c % 2 = 0 ∨ k / 2 ^ c % 2 = 1 := by omega
  rcases this with h | h <;> rw [h] <;> rfl
theorem or_walk {k c : Nat} (hk : k < 4611686018427387904) (hc : c ≤ 20) : bits .or .i64 (k : Int) ((2 : Int) ^ c) = ((k ||| 2 ^ c : Nat) : Int) := by
  rw [pow_cast]
  have h1 : 2 ^ c ≤ 2 ^ 20 := Nat.pow_le_pow_right (n := 2) (by omega) hc
  exact or_i64n k (2 ^ c) hk (by omega)
theorem share_columns (A : Option Addr) (m c n : Nat) (w : World) (hm : m = 2 ^ n) (hn1 : 1 ≤ n) (hn : n ≤ 10) :
    Calls Tryz.prog 37 #[.slice A m c] w fun e w' => e = .returned (.tuple #[.int .i64 (n : Int), .bool true]) ∧ w = w' := by
  have HM := Lib.hid hm
  clear hm
  go_enter Tryz.func37, Tryz.ntmps37
  go_wp2_with fail
  go_loopw [4] (fun p wr => ∃ k : Nat, 1 ≤ k ∧ k ≤ n ∧ p = .int .i64 (k : Int) ∧ wr = w) (fun p _ => 11 - (intOf p).toNat)
  case atStart => exact ⟨1, by omega, hn1, rfl, rfl⟩
  case round =>
    obtain ⟨k, hk1, hk, rfl, rfl⟩ := hrel
    have hw := pow_wrap (k := k) (by omega)
    have k10 : (k : Int) ≤ 10 := by omega
    by_cases h : k = n
    · subst h
      have he : ((m : Int) == (2 : Int) ^ k) = true := by rw [HM.out, pow_cast]; simp
      go_wp2
      go_returns
      exact ⟨rfl, rfl⟩
    · have hlt : 2 ^ k < 2 ^ n := Nat.pow_lt_pow_right (by omega) (by omega)
      have he : ((m : Int) == (2 : Int) ^ k) = false := by
        rw [pow_cast]
        simp only [beq_eq_false_iff_ne]
        intro e
        have := HM.out
        omega
      clear hlt
      go_wp2
      exact ⟨⟨k + 1, by omega, by omega, by go_num, trivial⟩, by simp [intOf]; omega⟩
theorem share_columns_none (A : Option Addr) (m c : Nat) (w : World) (hm : ∀ n, 1 ≤ n → n ≤ 10 → m ≠ 2 ^ n) :
    Calls Tryz.prog 37 #[.slice A m c] w fun e w' => e = .returned (.tuple #[.int .i64 0, .bool false]) ∧ w = w' := by
  have HM := Lib.hid hm
  clear hm
  go_enter Tryz.func37, Tryz.ntmps37
  go_wp2_with fail
  go_loopw [4] (fun p wr => ∃ k : Nat, 1 ≤ k ∧ k ≤ 11 ∧ p = .int .i64 (k : Int) ∧ wr = w) (fun p _ => 11 - (intOf p).toNat)
  case atStart => exact ⟨1, by omega, by omega, rfl, rfl⟩
  case round =>
    obtain ⟨k, hk1, hk, rfl, rfl⟩ := hrel
    by_cases h : k = 11
    · subst h
      go_wp2
      go_returns
      exact ⟨rfl, rfl⟩
    · have hw := pow_wrap (k := k) (by omega)
      have k10 : (k : Int) ≤ 10 := by omega
      have hne := HM.out k hk1 (by omega)
      have he : ((m : Int) == (2 : Int) ^ k) = false := by
        rw [pow_cast]
        simp only [beq_eq_false_iff_ne]
        intro e
        exact hne (by omega)
      clear hne
      go_wp2
      exact ⟨⟨k + 1, by omega, by omega, by go_num, trivial⟩, by simp [intOf]; omega⟩
end Go.Proofs.YtbjemjopcoajcaaGreatDoor

/-! The document's Columns. -/
namespace Go.Proofs.YtbjemjopcoajcaaGreatDoor
open Go.RowKit
set_option linter.unusedSimpArgs false
set_option linter.unusedVariables false

theorem ref_columns (m n : Nat) (w : World) (hm : m = 2 ^ n) (hn1 : 1 ≤ n) (hn : n ≤ 10) :
    Calls Tryz.prog 21 #[.int .i64 (m : Int)] w fun e w' => e = .returned (.int .i64 (n : Int)) ∧ w = w' := by
  have HM := Lib.hid hm
  clear hm
  go_enter Tryz.func21, Tryz.ntmps21
  go_wp2_with fail
  go_loopw [3] (fun p wr => ∃ k : Nat, 1 ≤ k ∧ k ≤ n ∧ p = .int .i64 (k : Int) ∧ wr = w) (fun p _ => 11 - (intOf p).toNat)
  case atStart => exact ⟨1, by omega, hn1, rfl, rfl⟩
  case round =>
    obtain ⟨k, hk1, hk, rfl, rfl⟩ := hrel
    have hw := pow_wrap (k := k) (by omega)
    have k10 : (k : Int) ≤ 10 := by omega
    by_cases h : k = n
    · subst h
      have he : ((m : Int) == (2 : Int) ^ k) = true := by rw [HM.out, pow_cast]; simp
      go_wp2
      go_ret
      exact ⟨rfl, rfl⟩
    · have hlt : 2 ^ k < 2 ^ n := Nat.pow_lt_pow_right (by omega) (by omega)
      have he : ((m : Int) == (2 : Int) ^ k) = false := by
        rw [pow_cast]
        simp only [beq_eq_false_iff_ne]
        intro e
        have := HM.out
        omega
      clear hlt
      go_wp2
      exact ⟨⟨k + 1, by omega, by omega, by go_num, trivial⟩, by simp [intOf]; omega⟩
theorem ref_columns_none (m : Nat) (w : World) (hm : ∀ n, 1 ≤ n → n ≤ 10 → m ≠ 2 ^ n) :
    Calls Tryz.prog 21 #[.int .i64 (m : Int)] w fun e w' => e = .returned (.int .i64 0) ∧ w = w' := by
  have HM := Lib.hid hm
  clear hm
  go_enter Tryz.func21, Tryz.ntmps21
  go_wp2_with fail
  go_loopw [3] (fun p wr => ∃ k : Nat, 1 ≤ k ∧ k ≤ 11 ∧ p = .int .i64 (k : Int) ∧ wr = w) (fun p _ => 11 - (intOf p).toNat)
  case atStart => exact ⟨1, by omega, by omega, rfl, rfl⟩
  case round =>
    obtain ⟨k, hk1, hk, rfl, rfl⟩ := hrel
    by_cases h : k = 11
    · subst h
      go_wp2
      go_ret
      exact ⟨rfl, rfl⟩
    · have hw := pow_wrap (k := k) (by omega)
      have k10 : (k : Int) ≤ 10 := by omega
      have hne := HM.out k hk1 (by omega)
      have he : ((m : Int) == (2 : Int) ^ k) = false := by
        rw [pow_cast]
        simp only [beq_eq_false_iff_ne]
        intro e
        exact hne (by omega)
      clear hne
      go_wp2
      exact ⟨⟨k + 1, by omega, by omega, by go_num, trivial⟩, by simp [intOf]; omega⟩
end Go.Proofs.YtbjemjopcoajcaaGreatDoor
