import Derived.Test.YtacbcaebaomglaaGreatDoorMathA
namespace Go.Proofs.YtacbcaebaomglaaGreatDoor
set_option linter.all false
theorem Jje {β : Nat} {lu lv : List Nat} {j n u2 u1 u0 v1 v0 : Nat} (hB : 0 < β) (j9 : Dig β lu) (j6 : Dig β lv) (o8 : lv.length = n) (hn : 2 <= n) (h2 : lu[j + n]? = some u2) (h1 : lu[j + n - 1]? = some u1) (h0 : lu[j + n - 2]? = some u0)
  (o9 : lv[n - 1]? = some v1) (o0 : lv[n - 2]? = some v0) (e8 : 0 < v1) (hX : dv β lu < dv β lv * β ^ (j + 1)) :
  u2 <= v1 /\ ∀ g, g < β -> g * (v1 * β + v0) <= (u2 * β + u1) * β + u0 -> (g + 1 < β -> (u2 * β + u1) * β + u0 < (g + 1) * (v1 * β + v0)) -> dv β lu / (dv β lv * β ^ j) <= g /\ g <= dv β lu / (dv β lv * β ^ j) + 1 := by
 have e9 := Xm j6
 rw [o8] at e9
 have j7 : dv β lu < β ^ (j + n + 1) := by
  refine Nat.lt_trans hX ?_
  have e : β ^ (j + n + 1) = β ^ n * β ^ (j + 1) := by rw [<- Nat.pow_add]; congr 1; omega
  rw [e]
  exact Nat.mul_lt_mul_of_pos_right e9 (Nat.pow_pos hB)
 have j8 := Km j9 hB j7
 have hT : dv β lu / β ^ (j + n - 2) = (u2 * β + u1) * β + u0 := by
  rw [Yr j9 hB, Qb h0, show j + n - 2 + 1 = j + n - 1 from by omega, Qb h1, show j + n - 1 + 1 = j + n from by omega, Qb h2, j8]
  rw [Nat.mul_zero, Nat.add_zero, Nat.add_mul, Nat.mul_add, Nat.mul_comm u1, Nat.mul_comm (u2 * β), Nat.mul_comm u2]
  omega
 have hD : dv β lv / β ^ (n - 2) = v1 * β + v0 := by
  rw [Yr j6 hB, Qb o0, show n - 2 + 1 = n - 1 from by omega, Qb o9, Xe (by omega), Nat.mul_zero, Nat.add_zero, Nat.mul_comm]
  omega
 have p9 : 0 < v1 * β + v0 := by
  have := Nat.mul_pos e8 hB
  omega
 have hP : β ^ (j + n - 2) = β ^ (n - 2) * β ^ j := by rw [<- Nat.pow_add]; congr 1; omega
 have o6 : dv β lu / β ^ j < β * dv β lv := by
  rw [Nat.div_lt_iff_lt_mul (Nat.pow_pos hB), Nat.mul_comm β, Nat.mul_assoc, Nat.mul_comm β, <- Nat.pow_succ]
  exact hX
 have o7 : dv β lu / β ^ j / β ^ (n - 2) = (u2 * β + u1) * β + u0 := by
  rw [Nat.div_div_eq_div_mul, Nat.mul_comm, <- hP]
  exact hT
 have p7 : β <= v1 * β + v0 + 1 := by
  have := Nat.mul_le_mul_right β e8
  omega
 have j0 := fun g g1 g2 g3 => Jic (β := β) (g := g) (Nat.pow_pos hB) o7 hD o6 p7 g1 g2 g3
 rw [Nat.div_div_eq_div_mul, Nat.mul_comm (β ^ j)] at j0
 refine ⟨?_, j0⟩
 have h4 : (u2 * β + u1) * β + u0 < β * (v1 * β + v0 + 1) := by
  rw [<- o7, <- hD, Nat.div_lt_iff_lt_mul (Nat.pow_pos hB)]
  refine Nat.lt_of_lt_of_le o6 ?_
  rw [Nat.mul_assoc]
  refine Nat.mul_le_mul_left _ ?_
  rw [Nat.add_mul, Nat.one_mul]
  have := Nat.lt_div_mul_add (a := dv β lv) (Nat.pow_pos (n := n - 2) hB)
  exact Nat.le_of_lt this
 rcases Nat.lt_or_ge v1 u2 with h5 | h5
 ·exfalso
  have p8 := j6.get o0
  have h6 : β * (v1 * β + v0 + 1) <= β * (β * u2) := by
   refine Nat.mul_le_mul_left _ ?_
   have h7 := Nat.mul_le_mul_left β h5
   rw [Nat.mul_succ, Nat.mul_comm β v1] at h7
   omega
  have h8 : β * (β * u2) = u2 * β * β := by rw [Nat.mul_comm, Nat.mul_comm β u2]
  rw [h8] at h6
  rw [Nat.add_mul] at h4
  omega
 exact h5
