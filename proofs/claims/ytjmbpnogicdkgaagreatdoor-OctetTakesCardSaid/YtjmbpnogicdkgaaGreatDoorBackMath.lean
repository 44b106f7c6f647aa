/-
  The plain law of laid things: a laid thing is no other one's bytes.
  The plain law of laid things: what is laid is read back.
-/
import Derived.Test.YtjmbpnogicdkgaaGreatDoorTurnMath
import Derived.Test.YtjmbpnogicdkgaaGreatDoorLayRef
import Derived.Test.YtjmbpnogicdkgaaGreatDoorGcdW
import Derived.Test.YtjmbpnogicdkgaaGreatDoorReader
/-! The plain law of laid things: a laid thing is no other one's bytes. -/
namespace Go.Proofs.YtjmbpnogicdkgaaGreatDoor
set_option linter.unusedSimpArgs false
set_option linter.unusedVariables false

theorem countB_val (n : Nat) (h : n < 9223372036854775808) : valB (countB n) = n := (countF_spec 9 n [] (by omega)).2.1
theorem countB_inj {a b : Nat} (ha : a < 9223372036854775808) (hb : b < 9223372036854775808) (h : countB a = countB b) : a = b := by
  rw [← countB_val a ha, ← countB_val b hb, h]
theorem countB_split {a b : Nat} {x y : List UInt8} (ha : a ≤ 4611686018427387904) (hb : b ≤ 4611686018427387904) (h : countB a ++ x = countB b ++ y) : a = b ∧ x = y := by
  have h1 := readC_count a x ha
  have h2 := readC_count b y hb
  rw [h, h2] at h1
  have e : b = a := congrArg Prod.fst h1
  subst e
  exact ⟨rfl, List.append_cancel_left h⟩
theorem natB_split {a b : Nat} {x y : List UInt8} (hn : nbytes a = nbytes b) (h : natB a ++ x = natB b ++ y) : a = b ∧ x = y := by
  obtain ⟨h1, h2⟩ := List.append_inj h (by rw [natB_len, natB_len, hn])
  exact ⟨by rw [← beVal_natB a, ← beVal_natB b, h1], h2⟩
theorem wholeB_split {z t : Int} {x y : List UInt8} (hz : nbytes z.natAbs ≤ 1099511627776) (ht : nbytes t.natAbs ≤ 1099511627776) (h : wholeB z ++ x = wholeB t ++ y) : z = t ∧ x = y := by
  unfold wholeB at h
  rw [List.append_assoc, List.append_assoc] at h
  obtain ⟨h1, h2⟩ := countB_split (by split <;> omega) (by split <;> omega) h
  have hb : nbytes z.natAbs = nbytes t.natAbs ∧ (z < 0 ↔ t < 0) := by
    by_cases h3 : z < 0 <;> by_cases h4 : t < 0 <;> simp only [h3, h4, if_true, if_false] at h1 <;> simp [h3, h4] <;> omega
  obtain ⟨h3, h4⟩ := natB_split hb.1 h2
  refine ⟨?_, h4⟩
  have h5 := hb.2
  omega
theorem fracB_inj {q r : Rat} (hq : nbytes q.num.natAbs ≤ 1099511627776) (hr : nbytes r.num.natAbs ≤ 1099511627776) (hq2 : nbytes q.den ≤ 1099511627776) (hr2 : nbytes r.den ≤ 1099511627776) (h : fracB q = fracB r) : q = r := by
  unfold fracB at h
  obtain ⟨h1, h2⟩ := wholeB_split hq hr h
  obtain ⟨h3, h4⟩ := countB_split (by omega) (by omega) h2
  have h5 : natB q.den ++ [] = natB r.den ++ [] := by rw [h4]
  obtain ⟨h6, _⟩ := natB_split h3 h5
  exact Rat.ext h1 h6
theorem textB_inj {s t : ByteArray} (hs : s.size ≤ 4611686018427387904) (ht : t.size ≤ 4611686018427387904) (h : textB s = textB t) : s = t := by
  unfold textB at h
  obtain ⟨_, h2⟩ := countB_split hs ht h
  exact ByteArray.ext (Array.ext' h2)
theorem boolB_inj {a b : Bool} (h : boolB a = boolB b) : a = b := by
  cases a <;> cases b <;> simp [boolB] at h ⊢
end Go.Proofs.YtjmbpnogicdkgaaGreatDoor

/-! The plain law of laid things: what is laid is read back. -/
namespace Go.Proofs.YtjmbpnogicdkgaaGreatDoor
set_option linter.unusedSimpArgs false
set_option linter.unusedVariables false

theorem stCount_back (most : Int) (n : Nat) (rest : List UInt8) (h : n ≤ 4611686018427387904) (hm : (n : Int) ≤ most) : stCount most (countB n ++ rest, false) = (n, (rest, false)) := by
  unfold stCount
  rw [readC_count n rest h]
  simp only [Bool.false_eq_true, if_false, ne_eq, not_true_eq_false, false_or]
  rw [if_neg (by omega), List.drop_left]
theorem stCount_long (most : Int) (n : Nat) (rest : List UInt8) (h : 4611686018427387904 < n) (h2 : n < 9223372036854775808) : stCount most (countB n ++ rest, false) = (0, stFail) := by
  obtain ⟨h3, h4, x, h5, h6⟩ := countF_spec 9 n rest (by omega)
  have e : (readC (countB n ++ rest)).2.2 ≠ 0 := by
    unfold countB readC
    simp only []
    have ht : (countF 9 n ++ rest).take (lead (countF 9 n ++ rest) + 1) = countF 9 n := by rw [h3, List.take_left]
    rw [ht, h4]
    repeat' split
    all_goals (simp; try omega)
  unfold stCount
  simp only [Bool.false_eq_true, if_false]
  rw [if_pos (.inl e)]
theorem stTake_back (l rest : List UInt8) : stTake l.length (l ++ rest, false) = (l, (rest, false)) := by
  unfold stTake
  rw [if_neg (by simp)]
  simp
theorem natB_head (n : Nat) : (natB n).head? ≠ some 0 := by
  by_cases h0 : n = 0
  · subst h0
    simp [natB, nbytes, blen, lowBytes]
  · obtain ⟨h1, h2, h3⟩ := blen_bounds n h0
    obtain ⟨k, hk⟩ : ∃ k, nbytes n = k + 1 := ⟨nbytes n - 1, by unfold nbytes; omega⟩
    have e : natB n = byteAt n k :: lowBytes n k := by unfold natB; rw [hk]; rfl
    rw [e]
    intro h
    simp only [List.head?_cons, Option.some.injEq] at h
    have h4 := byteAt_toNat n k
    rw [h] at h4
    have h5 : n < 256 ^ (k + 1) := by rw [← hk]; exact lt_nbytes n
    have h6 : 256 ^ k ≤ n := by
      refine Nat.le_trans ?_ h2
      rw [show (256 : Nat) = 2 ^ 8 from rfl, ← Nat.pow_mul]
      exact Nat.pow_le_pow_right (by omega) (by unfold nbytes at hk; omega)
    have h7 : n / 256 ^ k < 256 := by
      rw [Nat.div_lt_iff_lt_mul (Nat.pow_pos (by omega)), Nat.mul_comm, ← Nat.pow_succ]
      exact h5
    have h8 : 0 < n / 256 ^ k := Nat.div_pos h6 (Nat.pow_pos (by omega))
    rw [Nat.mod_eq_of_lt h7] at h4
    simp at h4
    omega
theorem stNat_back (n : Nat) (rest : List UInt8) : stNat (nbytes n) (natB n ++ rest, false) = (n, (rest, false)) := by
  unfold stNat
  rw [← natB_len n, stTake_back]
  simp only []
  rw [if_neg (natB_head n), beVal_natB]
theorem nbytes_pos {n : Nat} (h : n ≠ 0) : 1 ≤ nbytes n := by
  have := (blen_pos n).2 h
  unfold nbytes
  omega
theorem stWhole_back (z : Int) (rest : List UInt8) (hz : nbytes z.natAbs ≤ 1099511627776) : stWhole (wholeB z ++ rest, false) = (z, (rest, false)) := by
  unfold stWhole wholeB
  obtain ⟨M, hM⟩ : ∃ M, 2 * nbytes z.natAbs + (if z < 0 then 1 else 0) = M := ⟨_, rfl⟩
  have hM2 : M / 2 = nbytes z.natAbs ∧ M ≤ 4611686018427387904 ∧ (M % 2 = 1 ↔ z < 0) ∧ M ≠ 1 := by
    by_cases h : z < 0
    · rw [if_pos h] at hM
      have := nbytes_pos (n := z.natAbs) (by omega)
      exact ⟨by omega, by omega, by omega, by omega⟩
    · rw [if_neg h] at hM
      exact ⟨by omega, by omega, by omega, by omega⟩
  rw [hM, List.append_assoc, stCount_back 4611686018427387904 M _ hM2.2.1 (by omega)]
  simp only []
  rw [hM2.1, stNat_back, if_neg hM2.2.2.2]
  simp only []
  have : signed (decide (M % 2 = 1)) z.natAbs = z := by
    by_cases h : z < 0
    · rw [decide_eq_true (hM2.2.2.1.2 h)]
      simp [signed]
      omega
    · rw [decide_eq_false (fun h2 => h (hM2.2.2.1.1 h2))]
      simp [signed]
      omega
  rw [this]
/-- what Reader.Frac reads -/
def stFrac (s : St) : Rat × St :=
  let c := stCount 4611686018427387904 (stWhole s).2
  let d := stNat c.1 c.2
  if d.2.2 then (0, d.2) else if d.1 = 0 ∨ (Rat.divInt (stWhole s).1 d.1).den ≠ d.1 then (0, stFail) else (Rat.divInt (stWhole s).1 d.1, d.2)
theorem stFrac_back (q : Rat) (rest : List UInt8) (hz : nbytes q.num.natAbs ≤ 1099511627776) (hd : nbytes q.den ≤ 1099511627776) : stFrac (fracB q ++ rest, false) = (q, (rest, false)) := by
  unfold stFrac fracB
  rw [List.append_assoc, stWhole_back _ _ hz]
  simp only []
  rw [List.append_assoc, stCount_back 4611686018427387904 _ _ (by omega) (by omega)]
  simp only []
  rw [stNat_back]
  simp only [Bool.false_eq_true, if_false]
  have e : Rat.divInt q.num q.den = q := Rat.num_divInt_den q
  rw [e, if_neg]
  simp [q.den_nz]
theorem stText_back (most : Int) (s : ByteArray) (rest : List UInt8) (hs : s.size ≤ 4611686018427387904) (hm : (s.size : Int) ≤ most) : stText most (textB s ++ rest, false) = (s.data.toList, (rest, false)) := by
  unfold stText textB
  rw [List.append_assoc, stCount_back most _ _ hs hm]
  have e : s.size = s.data.toList.length := by simp
  rw [e, stTake_back]
theorem stBool_back (b : Bool) (rest : List UInt8) : stBool (boolB b ++ rest, false) = (b, (rest, false)) := by
  have h := stTake_back (boolB b) rest
  rw [show (boolB b).length = 1 from rfl] at h
  unfold stBool
  rw [h]
  cases b <;> simp [boolB]
end Go.Proofs.YtjmbpnogicdkgaaGreatDoor
