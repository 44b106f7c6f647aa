/-
  Numbers as lists of words, the lowest first, and as the program's values.
-/
import Derived.Test.YtjmbpnogicdkgaaNum
namespace Go.Proofs.Ytjmbpnogicdkgaa
set_option linter.unusedSimpArgs false
set_option linter.unusedVariables false

def wordsF : Nat → Nat → List Nat
  | 0, _ => []
  | f + 1, n => if n = 0 then [] else n % 18446744073709551616 :: wordsF f (n / 18446744073709551616)
/-- the words of a number, none for 0 -/
def words (n : Nat) : List Nat := wordsF n n
/-- the number of a list of words -/
def val : List Nat → Nat
  | [] => 0
  | x :: r => x + 18446744073709551616 * val r
def W64 (l : List Nat) : Prop := ∀ x ∈ l, x < 18446744073709551616
def Trim (l : List Nat) : Prop := l.getLast? ≠ some 0

theorem wordsF_fuel : ∀ (f g n : Nat), n ≤ f → n ≤ g → wordsF f n = wordsF g n := by
  intro f
  induction f with
  | zero =>
    intro g n h1 h2
    obtain rfl : n = 0 := by omega
    cases g <;> simp [wordsF]
  | succ f ih =>
    intro g n h1 h2
    by_cases h : n = 0
    · subst h; cases g <;> simp [wordsF]
    · obtain ⟨g, rfl⟩ : ∃ k, g = k + 1 := ⟨g - 1, by omega⟩
      simp only [wordsF, if_neg h]
      rw [ih g _ (by omega) (by omega)]
theorem words_zero : words 0 = [] := rfl
theorem words_pos (n : Nat) (h : n ≠ 0) : words n = n % 18446744073709551616 :: words (n / 18446744073709551616) := by
  unfold words
  obtain ⟨k, rfl⟩ : ∃ k, n = k + 1 := ⟨n - 1, by omega⟩
  rw [show wordsF (k + 1) (k + 1) = (k + 1) % 18446744073709551616 :: wordsF k ((k + 1) / 18446744073709551616) from by simp only [wordsF, if_neg h]]
  rw [wordsF_fuel k _ _ (by omega) (Nat.le_refl _)]
theorem val_words (n : Nat) : val (words n) = n := by
  induction n using Nat.strongRecOn with
  | ind n ih =>
    by_cases h : n = 0
    · subst h; rw [words_zero]; rfl
    · rw [words_pos n h]
      simp only [val]
      rw [ih _ (by omega)]
      omega
theorem words_lt (n : Nat) : W64 (words n) := by
  induction n using Nat.strongRecOn with
  | ind n ih =>
    by_cases h : n = 0
    · subst h; rw [words_zero]; intro x hx; cases hx
    · rw [words_pos n h]
      intro x hx
      rcases List.mem_cons.1 hx with rfl | hx
      · exact Nat.mod_lt _ (by omega)
      · exact ih _ (by omega) x hx
theorem words_trim (n : Nat) : Trim (words n) := by
  induction n using Nat.strongRecOn with
  | ind n ih =>
    unfold Trim
    by_cases h : n = 0
    · subst h; rw [words_zero]; simp
    · rw [words_pos n h]
      by_cases h2 : n / 18446744073709551616 = 0
      · rw [h2, words_zero]
        simp
        omega
      · rw [words_pos _ h2, List.getLast?_cons_cons, ← words_pos _ h2]
        exact ih _ (by omega)
theorem words_val : ∀ (l : List Nat), W64 l → Trim l → words (val l) = l := by
  intro l
  induction l with
  | nil => intro _ _; rfl
  | cons x r ih =>
    intro hw ht
    have hx : x < 18446744073709551616 := hw x (by simp)
    have hr : W64 r := fun y hy => hw y (by simp [hy])
    have htr : Trim r := by
      unfold Trim at *
      cases r with
      | nil => simp
      | cons y s => rw [List.getLast?_cons_cons] at ht; exact ht
    have ih' := ih hr htr
    simp only [val]
    by_cases h : x + 18446744073709551616 * val r = 0
    · have h1 : val r = 0 := by omega
      rw [h1, words_zero] at ih'
      subst ih'
      have : x = 0 := by omega
      subst this
      exact absurd rfl ht
    · rw [words_pos _ h, show (x + 18446744073709551616 * val r) % 18446744073709551616 = x from by omega, show (x + 18446744073709551616 * val r) / 18446744073709551616 = val r from by omega, ih']
theorem val_append (a b : List Nat) : val (a ++ b) = val a + 18446744073709551616 ^ a.length * val b := by
  induction a with
  | nil => simp [val]
  | cons x r ih =>
    simp only [List.cons_append, val, List.length_cons, ih]
    rw [Nat.pow_succ, Nat.mul_add, Nat.mul_comm (18446744073709551616 ^ r.length) 18446744073709551616, Nat.mul_assoc, Nat.add_assoc]
theorem val_lt (l : List Nat) (h : W64 l) : val l < 18446744073709551616 ^ l.length := by
  induction l with
  | nil => simp [val]
  | cons x r ih =>
    have hx : x < 18446744073709551616 := h x (by simp)
    have := ih (fun y hy => h y (by simp [hy]))
    simp only [val, List.length_cons, Nat.pow_succ]
    omega

/-- the eight bytes of a word, the lowest first -/
def leB (x : Nat) : List UInt8 := [UInt8.ofNat x, UInt8.ofNat (x / 256), UInt8.ofNat (x / 65536), UInt8.ofNat (x / 16777216), UInt8.ofNat (x / 4294967296), UInt8.ofNat (x / 1099511627776), UInt8.ofNat (x / 281474976710656), UInt8.ofNat (x / 72057594037927936)]
theorem leB_len (x : Nat) : (leB x).length = 8 := rfl
def more (n : Nat) : List UInt8 := (words n).tail.flatMap leB
/-- the string of the words above the lowest -/
def mo (n : Nat) : ByteArray := ⟨(more n).toArray⟩
def lo (n : Nat) : Nat := n % 18446744073709551616
/-- a natural number as the program's value -/
def natV (n : Nat) : Value := .agg #[.int .u64 (lo n : Int), .string (mo n)]

theorem lo_lt (n : Nat) : lo n < 18446744073709551616 := Nat.mod_lt _ (by omega)
theorem flat_len (l : List Nat) : (l.flatMap leB).length = 8 * l.length := by
  induction l with
  | nil => rfl
  | cons x r ih => simp only [List.flatMap_cons, List.length_append, ih, leB_len, List.length_cons]; omega
theorem flat_drop (l : List Nat) : ∀ k, (l.flatMap leB).drop (8 * k) = (l.drop k).flatMap leB := by
  induction l with
  | nil => intro k; simp
  | cons x r ih =>
    intro k
    cases k with
    | zero => rfl
    | succ k =>
      rw [List.flatMap_cons, List.drop_succ_cons, ← ih k, show 8 * (k + 1) = (leB x).length + 8 * k from by rw [leB_len]; omega]
      rw [List.drop_append, List.drop_of_length_le (by omega)]
      simp
theorem mo_size (n : Nat) : (mo n).size = 8 * ((words n).length - 1) := by
  show (more n).toArray.size = _
  unfold more
  rw [List.size_toArray, flat_len, List.length_tail]
theorem mo_small (n : Nat) (h : n < 18446744073709551616) : mo n = ⟨#[]⟩ := by
  unfold mo more
  by_cases h0 : n = 0
  · subst h0; rfl
  · rw [words_pos n h0, show n / 18446744073709551616 = 0 from by omega, words_zero]
    rfl
theorem lo_small (n : Nat) (h : n < 18446744073709551616) : lo n = n := Nat.mod_eq_of_lt h
theorem words_small (n : Nat) (h : n < 18446744073709551616) (h0 : n ≠ 0) : words n = [n] := by
  rw [words_pos n h0, show n / 18446744073709551616 = 0 from by omega, words_zero, Nat.mod_eq_of_lt h]
theorem words_big (n : Nat) (h : ¬ n < 18446744073709551616) : 2 ≤ (words n).length := by
  rw [words_pos n (by omega), words_pos (n / 18446744073709551616) (by omega)]
  simp
theorem words_head (n : Nat) (h : n ≠ 0) : words n = lo n :: (words n).tail := by
  rw [words_pos n h]
  rfl
end Go.Proofs.Ytjmbpnogicdkgaa
