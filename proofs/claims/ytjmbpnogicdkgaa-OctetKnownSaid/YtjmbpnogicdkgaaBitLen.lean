/-
  The number of bits of a number.
-/
import Derived.Test.YtjmbpnogicdkgaaNatMath
import Derived.Lib.ItoaNum
namespace Go.Proofs.Ytjmbpnogicdkgaa
set_option linter.unusedSimpArgs false
set_option linter.unusedVariables false

/-- the number of bits without leading zeros -/
def blen (n : Nat) : Nat := if n = 0 then 0 else n.log2 + 1
theorem blen_zero : blen 0 = 0 := rfl
theorem blen_eq (n k : Nat) (h1 : 2 ^ k ≤ n) (h2 : n < 2 ^ (k + 1)) : blen n = k + 1 := by
  have h0 : n ≠ 0 := by have := Nat.two_pow_pos k; omega
  unfold blen
  rw [if_neg h0, (Nat.log2_eq_iff h0).2 ⟨h1, h2⟩]
theorem blen_bounds (n : Nat) (h : n ≠ 0) : 1 ≤ blen n ∧ 2 ^ (blen n - 1) ≤ n ∧ n < 2 ^ blen n := by
  unfold blen
  rw [if_neg h]
  exact ⟨by omega, Nat.log2_self_le h, Nat.lt_log2_self⟩
theorem blen_pos (n : Nat) : 0 < blen n ↔ n ≠ 0 := by
  unfold blen
  by_cases h : n = 0
  · subst h; simp
  · simp [h]
theorem blen_lt (n : Nat) : n < 2 ^ blen n := by
  by_cases h : n = 0
  · subst h; decide
  · exact (blen_bounds n h).2.2
theorem blen_shift (a t j : Nat) (ha : a < 2 ^ j) (ht : t ≠ 0) : blen (a + 2 ^ j * t) = j + blen t := by
  obtain ⟨h1, h2, h3⟩ := blen_bounds t ht
  obtain ⟨k, hk⟩ : ∃ k, blen t = k + 1 := ⟨blen t - 1, by omega⟩
  rw [hk] at h2 h3 ⊢
  rw [← Nat.add_assoc]
  apply blen_eq
  · rw [Nat.pow_add]
    have : 2 ^ j * 2 ^ (k + 1 - 1) ≤ 2 ^ j * t := Nat.mul_le_mul_left _ h2
    simp at this
    omega
  · rw [show j + k + 1 = j + (k + 1) from by omega, Nat.pow_add]
    have : 2 ^ j * (t + 1) ≤ 2 ^ j * 2 ^ (k + 1) := Nat.mul_le_mul_left _ h3
    rw [Nat.mul_add] at this
    omega
theorem bitLen_eq (x : Nat) (h : x < 18446744073709551616) : Lib.bitLen x = blen x := by
  by_cases h0 : x = 0
  · subst h0; exact Lib.bitLenAux_zero 64
  · obtain ⟨h1, h2, h3⟩ := Lib.bitLenAux_bounds 64 x h h0
    unfold Lib.bitLen
    generalize Lib.bitLenAux 64 x = k at *
    obtain ⟨j, rfl⟩ : ∃ j, k = j + 1 := ⟨k - 1, by omega⟩
    rw [blen_eq x j (by simpa using h2) h3]
/-- the highest word -/
def top (n : Nat) : Nat := (words n).getLastD 0
theorem words_top (n : Nat) (h : n ≠ 0) : words n = (words n).dropLast ++ [top n] ∧ top n ≠ 0 ∧ top n < 18446744073709551616 := by
  have hne : words n ≠ [] := by rw [words_pos n h]; simp
  have h1 : top n = (words n).getLast hne := by
    unfold top
    rw [List.getLastD_eq_getLast?, List.getLast?_eq_some_getLast hne]
    rfl
  refine ⟨?_, ?_, ?_⟩
  · rw [h1, List.dropLast_concat_getLast]
  · have := words_trim n
    unfold Trim at this
    rw [List.getLast?_eq_some_getLast hne] at this
    rw [h1]
    intro h2
    exact this (by rw [h2])
  · rw [h1]
    exact words_lt n _ (List.getLast_mem hne)
theorem blen_words (n : Nat) (h : n ≠ 0) : blen n = 64 * ((words n).length - 1) + blen (top n) := by
  obtain ⟨h1, h2, h3⟩ := words_top n h
  have hv := val_words n
  rw [h1, val_append] at hv
  have hw : W64 (words n).dropLast := fun x hx => words_lt n x ((List.dropLast_sublist _).subset hx)
  have hl := val_lt _ hw
  have e : val [top n] = top n := by simp [val]
  rw [e, List.length_dropLast] at hv
  rw [List.length_dropLast] at hl
  have p : (18446744073709551616 : Nat) ^ ((words n).length - 1) = 2 ^ (64 * ((words n).length - 1)) := by
    rw [Nat.pow_mul]
  rw [p] at hv hl
  have := blen_shift _ (top n) _ hl h2
  rw [hv] at this
  exact this
theorem flat_top (n : Nat) (h : ¬ n < 18446744073709551616) : (mo n).data.toList.drop ((mo n).size - 8) = leB (top n) := by
  have hb := words_big n h
  obtain ⟨h1, _, _⟩ := words_top n (by omega)
  rw [mo_size]
  have e : (mo n).data.toList = (words n).tail.flatMap leB := rfl
  rw [e, show 8 * ((words n).length - 1) - 8 = 8 * ((words n).length - 2) from by omega, flat_drop]
  have hd : (words n).tail.drop ((words n).length - 2) = [top n] := by
    rw [List.drop_tail]
    rw [show (words n).length - 2 + 1 = (words n).dropLast.length from by rw [List.length_dropLast]; omega]
    conv => lhs; rw [h1]
    rw [List.dropLast_concat, List.drop_left]
  rw [hd]
  simp
end Go.Proofs.Ytjmbpnogicdkgaa
