/-
  The plain mathematics of the generator: the step of the state, the mixing of the output, the state that is met again (the step is odd), the numbers below a bound.
-/
import Derived.Test.YtjmbpnogicdkgaaNum
namespace Go.Proofs.Ytjmbpnogicdkgaa
namespace Dice
set_option linter.unusedSimpArgs false
set_option linter.unusedVariables false

def step (s : Nat) : Nat := (s + 11400714819323198485) % 18446744073709551616
def mixA (z : Nat) : Nat := ((z ^^^ (z / 1073741824)) * 13787848793156543929) % 18446744073709551616
def mixB (z : Nat) : Nat := ((z ^^^ (z / 134217728)) * 10723151780598845931) % 18446744073709551616
def mixC (z : Nat) : Nat := z ^^^ (z / 2147483648)
def mix (z : Nat) : Nat := mixC (mixB (mixA z))
def next (s : Nat) : Nat := mix (step s)

theorem step_lt (s : Nat) : step s < 18446744073709551616 := Nat.mod_lt _ (by omega)
theorem mixA_lt (z : Nat) : mixA z < 18446744073709551616 := Nat.mod_lt _ (by omega)
theorem mixB_lt (z : Nat) : mixB z < 18446744073709551616 := Nat.mod_lt _ (by omega)
theorem mix_lt (z : Nat) : mix z < 18446744073709551616 := by
  unfold mix mixC
  exact xor_lt64 (mixB_lt _) (Nat.lt_of_le_of_lt (Nat.div_le_self _ _) (mixB_lt _))
theorem next_lt (s : Nat) : next s < 18446744073709551616 := mix_lt _

theorem step_walk (s : Nat) : IntKind.u64.wrap ((s : Int) + 11400714819323198485) = ((step s : Nat) : Int) := wrap_u64_nat (s + 11400714819323198485)
theorem mixA_walk (z : Nat) (h : z < 18446744073709551616) : IntKind.u64.wrap (bits .xor .u64 (z : Int) ((z : Int) / 1073741824) * 13787848793156543929) = ((mixA z : Nat) : Int) := by
  have e1 : bits .xor .u64 (z : Int) ((z : Int) / 1073741824) = ((z ^^^ (z / 1073741824) : Nat) : Int) := xor_u64 z (z / 1073741824) h (Nat.lt_of_le_of_lt (Nat.div_le_self _ _) h)
  rw [e1]
  exact wrap_u64_nat ((z ^^^ (z / 1073741824)) * 13787848793156543929)
theorem mixB_walk (z : Nat) (h : z < 18446744073709551616) : IntKind.u64.wrap (bits .xor .u64 (z : Int) ((z : Int) / 134217728) * 10723151780598845931) = ((mixB z : Nat) : Int) := by
  have e1 : bits .xor .u64 (z : Int) ((z : Int) / 134217728) = ((z ^^^ (z / 134217728) : Nat) : Int) := xor_u64 z (z / 134217728) h (Nat.lt_of_le_of_lt (Nat.div_le_self _ _) h)
  rw [e1]
  exact wrap_u64_nat ((z ^^^ (z / 134217728)) * 10723151780598845931)
theorem mixC_walk (z : Nat) (h : z < 18446744073709551616) : bits .xor .u64 (z : Int) ((z : Int) / 2147483648) = ((mixC z : Nat) : Int) :=
  xor_u64 z (z / 2147483648) h (Nat.lt_of_le_of_lt (Nat.div_le_self _ _) h)

theorem mix_zero : mix 0 = 0 := by decide +kernel
theorem next_zero : next 0 = 16294208416658607535 := by decide +kernel
theorem step_zero : step 0 = 11400714819323198485 := by decide +kernel

/-- after k steps from s the state is 0 -/
def Gap (s k : Nat) : Prop := (s + k * 11400714819323198485) % 18446744073709551616 = 0
theorem gap_arith (s k t : Nat) (h : s < 18446744073709551616) (d : 18446744073709551616 * t + k = (18446744073709551616 - s) * 17428512612931826493) : (s + k * 11400714819323198485) % 18446744073709551616 = 0 := by
  omega
theorem gap_exists (s : Nat) (h : s < 18446744073709551616) : ∃ k, 1 ≤ k ∧ k ≤ 36893488147419103232 ∧ Gap s k := by
  have d : ∀ m : Nat, ∃ k t : Nat, k < 18446744073709551616 ∧ 18446744073709551616 * t + k = m :=
    fun m => ⟨m % 18446744073709551616, m / 18446744073709551616, Nat.mod_lt _ (by omega), Nat.div_add_mod _ _⟩
  obtain ⟨k, t, e, d⟩ := d ((18446744073709551616 - s) * 17428512612931826493)
  have g := gap_arith s k t h d
  clear d
  refine ⟨k + 18446744073709551616, by omega, by omega, ?_⟩
  unfold Gap
  have : s + (k + 18446744073709551616) * 11400714819323198485 = (s + k * 11400714819323198485) + 11400714819323198485 * 18446744073709551616 := by omega
  rw [this, Nat.add_mul_mod_self_right, g]
theorem gap_step (s k : Nat) (h : Gap s (k + 1)) : Gap (step s) k := by unfold Gap step at *; omega
theorem gap_zero (s : Nat) (h : Gap s 1) : next s = 0 := by
  have : step s = 0 := by unfold Gap step at *; omega
  unfold next
  rw [this, mix_zero]

def belowF : Nat → Nat → Nat → Nat × Nat
  | 0, _, s => (0, s)
  | f + 1, last, s => if next s ≤ last then (next s, step s) else belowF f last (step s)
theorem belowF_fuel (last : Nat) : ∀ (k s f1 f2 : Nat), Gap s k → 1 ≤ k → k ≤ f1 → k ≤ f2 → belowF f1 last s = belowF f2 last s := by
  intro k
  induction k with
  | zero => intro s f1 f2 _ h; omega
  | succ k ih =>
    intro s f1 f2 hg _ h1 h2
    obtain ⟨g1, rfl⟩ : ∃ g, f1 = g + 1 := ⟨f1 - 1, by omega⟩
    obtain ⟨g2, rfl⟩ : ∃ g, f2 = g + 1 := ⟨f2 - 1, by omega⟩
    simp only [belowF]
    by_cases hk : k = 0
    · subst hk
      have := gap_zero s hg
      simp [this]
    · split
      · rfl
      · exact ih (step s) g1 g2 (gap_step s k hg) (by omega) (by omega) (by omega)
theorem belowF_succ (f last s : Nat) : belowF (f + 1) last s = if next s ≤ last then (next s, step s) else belowF f last (step s) := by simp only [belowF]
/-- some number above all the rounds that can come: chosen, so that nothing counts down from it -/
noncomputable def fuelX : { n : Nat // 36893488147419103232 ≤ n } := Classical.choice ⟨⟨36893488147419103232, Nat.le_refl _⟩⟩
noncomputable def fuelN : Nat := fuelX.1
theorem fuelN_le : 36893488147419103232 ≤ fuelN := fuelX.2
/-- the first output that is at most last, and the state behind it -/
noncomputable def draw (last s : Nat) : Nat × Nat := belowF fuelN last s
theorem draw_step (last s : Nat) (h : s < 18446744073709551616) : draw last s = if next s ≤ last then (next s, step s) else draw last (step s) := by
  obtain ⟨k, h1, h2, hg⟩ := gap_exists s h
  have hf := fuelN_le
  unfold draw
  rw [belowF_fuel last k s fuelN (fuelN + 1) hg h1 (by omega) (by omega), belowF_succ]
theorem draw_le (last s : Nat) (h : s < 18446744073709551616) : (draw last s).1 ≤ last ∧ (draw last s).2 < 18446744073709551616 := by
  obtain ⟨k, h1, h2, hg⟩ := gap_exists s h
  clear h2
  induction k generalizing s with
  | zero => omega
  | succ k ih =>
    rw [draw_step last s h]
    split
    · exact ⟨by assumption, step_lt _⟩
    · by_cases hk : k = 0
      · subst hk
        have := gap_zero s hg
        omega
      · exact ih (step s) (step_lt _) (by omega) (gap_step s k hg)
attribute [irreducible] draw
def last (n : Nat) : Nat := 18446744073709551615 - (18446744073709551615 % n + 1) % n
/-- Below(n) at the state s: the number and the new state -/
noncomputable def below (n s : Nat) : Nat × Nat := ((draw (last n) s).1 % n, (draw (last n) s).2)
theorem below_fst (n s : Nat) : (below n s).1 = (draw (last n) s).1 % n := by simp only [below]
theorem below_snd (n s : Nat) : (below n s).2 = (draw (last n) s).2 := by simp only [below]
theorem below_lt (n s : Nat) (hn : 0 < n) : (below n s).1 < n := by
  rw [below_fst]
  exact Nat.mod_lt _ hn
theorem below_state (n s : Nat) (h : s < 18446744073709551616) : (below n s).2 < 18446744073709551616 := by
  rw [below_snd]
  exact (draw_le (last n) s h).2
attribute [irreducible] below

end Dice
end Go.Proofs.Ytjmbpnogicdkgaa
