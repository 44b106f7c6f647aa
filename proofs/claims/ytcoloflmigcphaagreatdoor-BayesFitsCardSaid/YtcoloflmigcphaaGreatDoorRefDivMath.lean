import Derived.Test.YtcoloflmigcphaaGreatDoorMathA
namespace Go.Proofs.YtcoloflmigcphaaGreatDoor
set_option linter.all false
theorem Jh9 {β : Nat} {lu lv : List Nat} {j n u2 u1 u0 v1 v0 : Nat} (hB : 0 < β) (aA : Dig β lu) (j8 : Dig β lv) (aC : lv.length = n) (hn : 2 <= n) (h2 : lu[j + n]? = some u2) (h1 : lu[j + n - 1]? = some u1) (h0 : lu[j + n - 2]? = some u0)
  (p9 : lv[n - 1]? = some v1) (aB : lv[n - 2]? = some v0) (j0 : 0 < v1) (hX : dv β lu < dv β lv * β ^ (j + 1)) :
  u2 <= v1 /\ ∀ g, g < β -> g * (v1 * β + v0) <= (u2 * β + u1) * β + u0 -> (g + 1 < β -> (u2 * β + u1) * β + u0 < (g + 1) * (v1 * β + v0)) -> dv β lu / (dv β lv * β ^ j) <= g /\ g <= dv β lu / (dv β lv * β ^ j) + 1 := by
 have j6 := Xm j8
 rw [aC] at j6
 have j9 : dv β lu < β ^ (j + n + 1) := by
  refine Nat.lt_trans hX ?_
  have e : β ^ (j + n + 1) = β ^ n * β ^ (j + 1) := by rw [<- Nat.pow_add]; congr 1; omega
  rw [e]
  exact Nat.mul_lt_mul_of_pos_right j6 (Nat.pow_pos hB)
 have y9 := Kg aA hB j9
 have hT : dv β lu / β ^ (j + n - 2) = (u2 * β + u1) * β + u0 := by
  rw [Zx aA hB, Qa h0, show j + n - 2 + 1 = j + n - 1 from by omega, Qa h1, show j + n - 1 + 1 = j + n from by omega, Qa h2, y9]
  rw [Nat.mul_zero, Nat.add_zero, Nat.add_mul, Nat.mul_add, Nat.mul_comm u1, Nat.mul_comm (u2 * β), Nat.mul_comm u2]
  omega
 have hD : dv β lv / β ^ (n - 2) = v1 * β + v0 := by
  rw [Zx j8 hB, Qa aB, show n - 2 + 1 = n - 1 from by omega, Qa p9, Qx (by omega), Nat.mul_zero, Nat.add_zero, Nat.mul_comm]
  omega
 have aE : 0 < v1 * β + v0 := by
  have := Nat.mul_pos j0 hB
  omega
 have hP : β ^ (j + n - 2) = β ^ (n - 2) * β ^ j := by rw [<- Nat.pow_add]; congr 1; omega
 have o0 : dv β lu / β ^ j < β * dv β lv := by
  rw [Nat.div_lt_iff_lt_mul (Nat.pow_pos hB), Nat.mul_comm β, Nat.mul_assoc, Nat.mul_comm β, <- Nat.pow_succ]
  exact hX
 have o9 : dv β lu / β ^ j / β ^ (n - 2) = (u2 * β + u1) * β + u0 := by
  rw [Nat.div_div_eq_div_mul, Nat.mul_comm, <- hP]
  exact hT
 have aD : β <= v1 * β + v0 + 1 := by
  have := Nat.mul_le_mul_right β j0
  omega
 have j7 := fun g g1 g2 g3 => Jg1 (β := β) (g := g) (Nat.pow_pos hB) o9 hD o0 aD g1 g2 g3
 rw [Nat.div_div_eq_div_mul, Nat.mul_comm (β ^ j)] at j7
 refine ⟨?_, j7⟩
 have h4 : (u2 * β + u1) * β + u0 < β * (v1 * β + v0 + 1) := by
  rw [<- o9, <- hD, Nat.div_lt_iff_lt_mul (Nat.pow_pos hB)]
  refine Nat.lt_of_lt_of_le o0 ?_
  rw [Nat.mul_assoc]
  refine Nat.mul_le_mul_left _ ?_
  rw [Nat.add_mul, Nat.one_mul]
  have := Nat.lt_div_mul_add (a := dv β lv) (Nat.pow_pos (n := n - 2) hB)
  exact Nat.le_of_lt this
 rcases Nat.lt_or_ge v1 u2 with h5 | h5
 ·exfalso
  have s9 := j8.get aB
  have h6 : β * (v1 * β + v0 + 1) <= β * (β * u2) := by
   refine Nat.mul_le_mul_left _ ?_
   have h7 := Nat.mul_le_mul_left β h5
   rw [Nat.mul_succ, Nat.mul_comm β v1] at h7
   omega
  have h8 : β * (β * u2) = u2 * β * β := by rw [Nat.mul_comm, Nat.mul_comm β u2]
  rw [h8] at h6
  rw [Nat.add_mul] at h4
  omega
 exact h5
