/-
  The plain mathematics of Order and Draw.
-/
import Derived.Test.YtjmbpnogicdkgaaDoorMathA
namespace Go.Proofs.YtjmbpnogicdkgaaDoor
namespace Dice
set_option linter.unusedSimpArgs false
set_option linter.unusedVariables false

def swapL (l : List Nat) (i j : Nat) : List Nat := (l.set i (l.getD j 0)).set j (l.getD i 0)
noncomputable def shuffle : Nat → List Nat → Nat → List Nat × Nat
  | 0, l, s => (l, s)
  | i + 1, l, s => shuffle i (swapL l (i + 1) (below (i + 2) s).1) (below (i + 2) s).2
theorem shuffle_zero (l : List Nat) (s : Nat) : shuffle 0 l s = (l, s) := by simp only [shuffle]
theorem shuffle_succ (i : Nat) (l : List Nat) (s : Nat) : shuffle (i + 1) l s = shuffle i (swapL l (i + 1) (below (i + 2) s).1) (below (i + 2) s).2 := by simp only [shuffle]
noncomputable def draws (n : Nat) : Nat → Nat → List Nat × Nat
  | 0, s => ([], s)
  | k + 1, s => ((draws n k s).1 ++ [(below n (draws n k s).2).1], (below n (draws n k s).2).2)
theorem draws_zero (n s : Nat) : draws n 0 s = ([], s) := by simp only [draws]
theorem draws_succ (n k s : Nat) : draws n (k + 1) s = ((draws n k s).1 ++ [(below n (draws n k s).2).1], (below n (draws n k s).2).2) := by simp only [draws]
theorem draws_len (n k s : Nat) : (draws n k s).1.length = k := by
  induction k with
  | zero => rw [draws_zero]; rfl
  | succ k ih => rw [draws_succ]; simp [ih]
theorem draws_lt (n k s : Nat) (hn : 0 < n) : ∀ x ∈ (draws n k s).1, x < n := by
  induction k with
  | zero => rw [draws_zero]; intro x hx; cases hx
  | succ k ih =>
    rw [draws_succ]
    intro x hx
    rcases List.mem_append.1 hx with h | h
    · exact ih x h
    · rw [List.mem_singleton] at h
      subst h
      exact below_lt n _ hn
theorem draws_state (n k s : Nat) (hs : s < 18446744073709551616) : (draws n k s).2 < 18446744073709551616 := by
  induction k with
  | zero => rw [draws_zero]; exact hs
  | succ k ih => rw [draws_succ]; exact below_state n _ ih

theorem swapL_len (l : List Nat) (i j : Nat) : (swapL l i j).length = l.length := by simp [swapL]
theorem swapL_get (l : List Nat) (i j k : Nat) (hi : i < l.length) (hj : j < l.length) :
    (swapL l i j)[k]? = l[if k = j then i else if k = i then j else k]? := by
  unfold swapL
  rw [List.getElem?_set]
  by_cases h1 : j = k
  · subst h1
    simp [hj, List.getD_eq_getElem?_getD, List.getElem?_eq_getElem hi]
  · rw [if_neg h1, List.getElem?_set]
    by_cases h2 : i = k
    · subst h2
      have : ¬ i = j := fun h => h1 h.symm
      simp [hi, this, List.getD_eq_getElem?_getD, List.getElem?_eq_getElem hj]
    · have a : ¬ k = j := fun h => h1 h.symm
      have b : ¬ k = i := fun h => h2 h.symm
      simp [h2, a, b]
/-- each number below n once -/
def Perm (n : Nat) (l : List Nat) : Prop := l.length = n ∧ (∀ x ∈ l, x < n) ∧ ∀ a b, a < n → b < n → l[a]? = l[b]? → a = b
theorem perm_range (n : Nat) : Perm n (List.range n) := by
  refine ⟨by simp, fun x hx => by simpa using hx, fun a b ha hb h => ?_⟩
  simp [ha, hb] at h
  exact h
theorem perm_swap (n i j : Nat) (l : List Nat) (h : Perm n l) (hi : i < n) (hj : j < n) : Perm n (swapL l i j) := by
  obtain ⟨h1, h2, h3⟩ := h
  refine ⟨by rw [swapL_len, h1], ?_, ?_⟩
  · intro x hx
    obtain ⟨k, hk⟩ := List.getElem?_of_mem hx
    rw [swapL_get l i j k (by omega) (by omega)] at hk
    exact h2 x (List.mem_of_getElem? hk)
  · intro a b ha hb hab
    rw [swapL_get l i j a (by omega) (by omega), swapL_get l i j b (by omega) (by omega)] at hab
    have := h3 _ _ (by split <;> (try split) <;> omega) (by split <;> (try split) <;> omega) hab
    split at this <;> split at this <;> (try split at this) <;> (try split at this) <;> omega
theorem shuffle_perm (n i : Nat) : ∀ (l : List Nat) (s : Nat), i < n → Perm n l → Perm n (shuffle i l s).1 := by
  induction i with
  | zero => intro l s _ h; rw [shuffle_zero]; exact h
  | succ i ih =>
    intro l s hi h
    rw [shuffle_succ]
    have := below_lt (i + 2) s (by omega)
    exact ih _ _ (by omega) (perm_swap n (i + 1) _ l h hi (by omega))
theorem shuffle_state (i : Nat) : ∀ (l : List Nat) (s : Nat), s < 18446744073709551616 → (shuffle i l s).2 < 18446744073709551616 := by
  induction i with
  | zero => intro l s h; rw [shuffle_zero]; exact h
  | succ i ih => intro l s h; rw [shuffle_succ]; exact ih _ _ (below_state _ _ h)
/-- Order(n) at the state s -/
noncomputable def order (n s : Nat) : List Nat × Nat := shuffle (n - 1) (List.range n) s
end Dice
end Go.Proofs.YtjmbpnogicdkgaaDoor
