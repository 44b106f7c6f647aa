/-
  The number of bits of sums and products.
-/
import Derived.Test.YtjmbpnogicdkgaaBitLen
namespace Go.Proofs.Ytjmbpnogicdkgaa
set_option linter.unusedVariables false

theorem blen_le (n k : Nat) (h : n < 2 ^ k) : blen n ≤ k := by
  by_cases h0 : n = 0
  · subst h0
    exact Nat.zero_le _
  · obtain ⟨h1, h2, h3⟩ := blen_bounds n h0
    rcases Nat.lt_or_ge k (blen n) with h4 | h4
    · exfalso
      have : 2 ^ k ≤ 2 ^ (blen n - 1) := Nat.pow_le_pow_right (by omega) (by omega)
      omega
    · exact h4
theorem blen_mono {a b : Nat} (h : a ≤ b) : blen a ≤ blen b := blen_le _ _ (Nat.lt_of_le_of_lt h (blen_lt b))
theorem blen_add (a b : Nat) : blen (a + b) ≤ max (blen a) (blen b) + 1 := by
  apply blen_le
  have h1 : a < 2 ^ max (blen a) (blen b) := Nat.lt_of_lt_of_le (blen_lt a) (Nat.pow_le_pow_right (by omega) (by omega))
  have h2 : b < 2 ^ max (blen a) (blen b) := Nat.lt_of_lt_of_le (blen_lt b) (Nat.pow_le_pow_right (by omega) (by omega))
  rw [Nat.pow_succ]
  omega
theorem blen_mul (a b : Nat) : blen (a * b) ≤ blen a + blen b := by
  apply blen_le
  rw [Nat.pow_add]
  exact Nat.mul_lt_mul'' (blen_lt a) (blen_lt b)
theorem blen_small (n : Nat) (h : n < 18446744073709551616) : blen n ≤ 64 := blen_le n 64 (by omega)
theorem lt_of_blen {n k : Nat} (h : blen n ≤ k) : n < 2 ^ k := Nat.lt_of_lt_of_le (blen_lt n) (Nat.pow_le_pow_right (by omega) h)
end Go.Proofs.Ytjmbpnogicdkgaa
