/-
  The plain law of laid things: a laid thing is no other one's bytes.
-/
import Derived.Test.YtjmbpnogicdkgaaGreatDoorTurnMath
import Derived.Test.YtjmbpnogicdkgaaGreatDoorLayRef
import Derived.Test.YtjmbpnogicdkgaaGreatDoorGcdW
namespace Go.Proofs.YtjmbpnogicdkgaaGreatDoor
set_option linter.unusedSimpArgs false
set_option linter.unusedVariables false

theorem countB_val (n : Nat) (h : n < 9223372036854775808) : valB (countB n) = n := (countF_spec 9 n [] (by omega)).2.1
theorem countB_inj {a b : Nat} (ha : a < 9223372036854775808) (hb : b < 9223372036854775808) (h : countB a = countB b) : a = b := by
  rw [← countB_val a ha, ← countB_val b hb, h]
theorem countB_split {a b : Nat} {x y : List UInt8} (ha : a ≤ 4611686018427387904) (hb : b ≤ 4611686018427387904) (h : countB a ++ x = countB b ++ y) : a = b ∧ x = y := by
  have h1 := readC_count a x ha
  have h2 := readC_count b y hb
  rw [h, h2] at h1
  have e : b = a := congrArg Prod.fst h1
  subst e
  exact ⟨rfl, List.append_cancel_left h⟩
theorem natB_split {a b : Nat} {x y : List UInt8} (hn : nbytes a = nbytes b) (h : natB a ++ x = natB b ++ y) : a = b ∧ x = y := by
  obtain ⟨h1, h2⟩ := List.append_inj h (by rw [natB_len, natB_len, hn])
  exact ⟨by rw [← beVal_natB a, ← beVal_natB b, h1], h2⟩
theorem wholeB_split {z t : Int} {x y : List UInt8} (hz : nbytes z.natAbs ≤ 1099511627776) (ht : nbytes t.natAbs ≤ 1099511627776) (h : wholeB z ++ x = wholeB t ++ y) : z = t ∧ x = y := by
  unfold wholeB at h
  rw [List.append_assoc, List.append_assoc] at h
  obtain ⟨h1, h2⟩ := countB_split (by split <;> omega) (by split <;> omega) h
  have hb : nbytes z.natAbs = nbytes t.natAbs ∧ (z < 0 ↔ t < 0) := by
    by_cases h3 : z < 0 <;> by_cases h4 : t < 0 <;> simp only [h3, h4, if_true, if_false] at h1 <;> simp [h3, h4] <;> omega
  obtain ⟨h3, h4⟩ := natB_split hb.1 h2
  refine ⟨?_, h4⟩
  have h5 := hb.2
  omega
theorem fracB_inj {q r : Rat} (hq : nbytes q.num.natAbs ≤ 1099511627776) (hr : nbytes r.num.natAbs ≤ 1099511627776) (hq2 : nbytes q.den ≤ 1099511627776) (hr2 : nbytes r.den ≤ 1099511627776) (h : fracB q = fracB r) : q = r := by
  unfold fracB at h
  obtain ⟨h1, h2⟩ := wholeB_split hq hr h
  obtain ⟨h3, h4⟩ := countB_split (by omega) (by omega) h2
  have h5 : natB q.den ++ [] = natB r.den ++ [] := by rw [h4]
  obtain ⟨h6, _⟩ := natB_split h3 h5
  exact Rat.ext h1 h6
theorem textB_inj {s t : ByteArray} (hs : s.size ≤ 4611686018427387904) (ht : t.size ≤ 4611686018427387904) (h : textB s = textB t) : s = t := by
  unfold textB at h
  obtain ⟨_, h2⟩ := countB_split hs ht h
  exact ByteArray.ext (Array.ext' h2)
theorem boolB_inj {a b : Bool} (h : boolB a = boolB b) : a = b := by
  cases a <;> cases b <;> simp [boolB] at h ⊢
end Go.Proofs.YtjmbpnogicdkgaaGreatDoor
