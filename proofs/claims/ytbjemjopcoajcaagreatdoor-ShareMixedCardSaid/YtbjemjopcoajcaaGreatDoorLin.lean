/-
  Linear forms over a table of fractions: two of them are equal where their coefficients are.
-/
import Derived.Test.YtbjemjopcoajcaaGreatDoorMathA
namespace Go.Proofs.YtbjemjopcoajcaaGreatDoor
set_option linter.unusedSimpArgs false
set_option linter.unusedVariables false

/-- the form with the coefficients c, at the table v -/
def dotQ : List Rat → List Rat → Rat
  | c :: cs, x :: xs => c * x + dotQ cs xs
  | _, _ => 0
def addF (a b : List Rat) : List Rat := List.zipWith (· + ·) a b
def scaleF (k : Rat) (a : List Rat) : List Rat := a.map (k * ·)
def zeroF (n : Nat) : List Rat := List.replicate n 0
def unitF (n i : Nat) : List Rat := (zeroF n).set i 1
theorem dotQ_nil (a : List Rat) : dotQ a [] = 0 := by cases a <;> rfl
theorem dot_zero (n : Nat) : ∀ v : List Rat, dotQ (zeroF n) v = 0 := by
  induction n with
  | zero => intro v; rfl
  | succ n ih =>
    intro v
    cases v with
    | nil => rfl
    | cons x v =>
      show 0 * x + dotQ (zeroF n) v = 0
      rw [ih, Rat.zero_mul, Rat.add_zero]
theorem dot_add (a : List Rat) : ∀ b v : List Rat, a.length = b.length → dotQ (addF a b) v = dotQ a v + dotQ b v := by
  induction a with
  | nil =>
    intro b v h
    obtain rfl : b = [] := List.eq_nil_of_length_eq_zero h.symm
    show (0 : Rat) = 0 + 0
    rw [Rat.add_zero]
  | cons x a ih =>
    intro b v h
    cases b with
    | nil => simp at h
    | cons y b =>
      cases v with
      | nil => show (0 : Rat) = 0 + 0; rw [Rat.add_zero]
      | cons z v =>
        show (x + y) * z + dotQ (addF a b) v = (x * z + dotQ a v) + (y * z + dotQ b v)
        rw [ih b v (by simpa using h), Rat.add_mul]
        rw [Rat.add_assoc, Rat.add_assoc, ← Rat.add_assoc (y * z), Rat.add_comm (y * z) (dotQ a v), Rat.add_assoc]
theorem dot_scale (k : Rat) (a : List Rat) : ∀ v : List Rat, dotQ (scaleF k a) v = k * dotQ a v := by
  induction a with
  | nil => intro v; show (0 : Rat) = k * 0; rw [Rat.mul_zero]
  | cons x a ih =>
    intro v
    cases v with
    | nil => show (0 : Rat) = k * 0; rw [Rat.mul_zero]
    | cons z v =>
      show (k * x) * z + dotQ (scaleF k a) v = k * (x * z + dotQ a v)
      rw [ih, Rat.mul_add, Rat.mul_assoc]
theorem dot_unit (n : Nat) : ∀ (i : Nat) (v : List Rat) (x : Rat), i < n → v[i]? = some x → dotQ (unitF n i) v = x := by
  induction n with
  | zero => intro i v x hi; omega
  | succ n ih =>
    intro i v x hi hv
    cases v with
    | nil => simp at hv
    | cons y v =>
      cases i with
      | zero =>
        simp at hv
        subst hv
        show 1 * y + dotQ (zeroF n) v = y
        rw [dot_zero, Rat.one_mul, Rat.add_zero]
      | succ i =>
        have h := ih i v x (by omega) (by simpa using hv)
        show 0 * y + dotQ (unitF n i) v = x
        rw [h, Rat.zero_mul, Rat.zero_add]
end Go.Proofs.YtbjemjopcoajcaaGreatDoor
