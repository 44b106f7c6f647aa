/-
  whole.Of, whole.From, Abs, Sign.
-/
import Derived.Test.YtjmbpnogicdkgaaNatBytes
namespace Go.Proofs.Ytjmbpnogicdkgaa
open Go.RowKit
set_option linter.unusedSimpArgs false
set_option linter.unusedVariables false

/-- an integer as the program's value -/
def intV (z : Int) : Value := .agg #[.bool (decide (z < 0)), .int .u64 (lo z.natAbs : Int), .string (mo z.natAbs)]

theorem neg_wrap (z : Int) (h0 : -9223372036854775808 ≤ z) (h1 : z < 0) : IntKind.u64.wrap (-(IntKind.u64.wrap z)) = (z.natAbs : Int) := by
  simp only [IntKind.wrap, IntKind.bits, IntKind.signed]
  simp
  omega
theorem neg_wrap' (z : Int) (h0 : -9223372036854775808 ≤ z) (h1 : z < 0) : IntKind.u64.wrap (-(z % 18446744073709551616)) = (z.natAbs : Int) := by
  simp only [IntKind.wrap, IntKind.bits, IntKind.signed]
  simp
  omega

theorem whole_of (z : Int) (w : World) (h0 : -9223372036854775808 ≤ z) (h1 : z ≤ 9223372036854775807) : Calls Try.prog 38 #[.int .i64 z] w (Ret (intV z) w) := by
  unfold intV
  by_cases hz : z < 0
  · have e1 := neg_wrap z h0 hz
    have e2 := neg_wrap' z h0 hz
    have hd : decide (z < 0) = true := by simpa using hz
    rw [hd]
    have hna : z.natAbs < 18446744073709551616 := by omega
    generalize z.natAbs = m at *
    go_enter Try.func38, Try.ntmps38
    go_wp2_with fail
    refine (nat_of m _ (by omega)).mono ?_
    rintro e w1 ⟨rfl, hb1⟩
    have hbk := (Blk.new w 53 #[.bool false, .int .u64 0, .string ⟨#[]⟩]).below hb1 (by simp)
    have hB1 : Below w.heap.size w w1 := ((Below.refl _ _).alloc (Nat.le_refl _) _).trans (hb1.mono (by simp))
    have q0 := hbk.cell 0
    have q1 := hbk.cell 1
    have q2 := hbk.cell 2
    have f0 := hbk.frozen 0
    have f1 := hbk.frozen 1
    have f2 := hbk.frozen 2
    have s0 := hbk.same0 (by simp)
    have s1 := hbk.same1 (by simp)
    have s2 := hbk.same2 (by simp)
    simp at q0 q1 q2
    clear hb1 hbk
    unfold natV
    go_wp2
    refine bodyPost_ret (v := .agg #[.bool true, .int .u64 (lo m : Int), .string (mo m)]) (by simp [results, Try.results38, go_sem, s0, s1, s2]) rfl ?_
    exact ⟨rfl, ((hB1.setCell (Nat.le_refl _) _).setCell (Nat.le_refl _) _).setCell (Nat.le_refl _) _⟩
  · have hd : decide (z < 0) = false := by simpa using hz
    rw [hd]
    obtain ⟨m, rfl⟩ := Int.eq_ofNat_of_zero_le (show 0 ≤ z by omega)
    have hd2 : decide ((m : Int) < 0) = false := by simp
    rw [Int.natAbs_natCast]
    go_enter Try.func38, Try.ntmps38
    go_wp2_with fail
    refine (nat_of m _ (by omega)).mono ?_
    rintro e w1 ⟨rfl, hb1⟩
    have hbk := (Blk.new w 53 #[.bool false, .int .u64 0, .string ⟨#[]⟩]).below hb1 (by simp)
    have hB1 : Below w.heap.size w w1 := ((Below.refl _ _).alloc (Nat.le_refl _) _).trans (hb1.mono (by simp))
    have q0 := hbk.cell 0
    have q1 := hbk.cell 1
    have q2 := hbk.cell 2
    have f0 := hbk.frozen 0
    have f1 := hbk.frozen 1
    have f2 := hbk.frozen 2
    have s0 := hbk.same0 (by simp)
    have s1 := hbk.same1 (by simp)
    have s2 := hbk.same2 (by simp)
    simp at q0 q1 q2
    clear hb1 hbk
    unfold natV
    go_wp2
    refine bodyPost_ret (v := .agg #[.bool false, .int .u64 (lo m : Int), .string (mo m)]) (by simp [results, Try.results38, go_sem, s0, s1, s2]) rfl ?_
    exact ⟨rfl, ((hB1.setCell (Nat.le_refl _) _).setCell (Nat.le_refl _) _).setCell (Nat.le_refl _) _⟩

theorem whole_abs (z : Int) (w : World) : Calls Try.prog 48 #[intV z] w (Ret (natV z.natAbs) w) := by
  unfold intV natV
  go_enter Try.func48, Try.ntmps48
  go_wp2
  go_returns
  exact ⟨rfl, by go_grown⟩

theorem whole_sign (z : Int) (w : World) (hz : blen z.natAbs ≤ 4611686018427387904) : Calls Try.prog 27 #[intV z] w (Ret (.int .i64 z.sign) w) := by
  unfold intV
  by_cases h : z < 0
  · have hd : decide (z < 0) = true := by simpa using h
    rw [hd, Int.sign_eq_neg_one_of_neg h]
    go_enter Try.func27, Try.ntmps27
    go_wp2
    go_ret
    exact ⟨rfl, by go_grown⟩
  · have hd : decide (z < 0) = false := by simpa using h
    rw [hd]
    have hp := blen_pos z.natAbs
    by_cases h0 : z = 0
    · subst h0
      have e : blen (0 : Int).natAbs = 0 := rfl
      go_enter Try.func27, Try.ntmps27
      go_wp2_with fail
      refine (nat_bits _ _ hz).mono ?_
      rintro e1 w1 ⟨rfl, hb1⟩
      rw [e]
      go_wp2
      go_ret
      exact ⟨rfl, ((Below.refl _ _).alloc (Nat.le_refl _) _).trans (hb1.mono (by simp))⟩
    · have e2 : (0 : Int) < (blen z.natAbs : Int) := by have := hp.2 (by omega); omega
      rw [Int.sign_eq_one_of_pos (by omega)]
      clear hp
      go_enter Try.func27, Try.ntmps27
      go_wp2_with fail
      refine (nat_bits _ _ hz).mono ?_
      rintro e1 w1 ⟨rfl, hb1⟩
      go_wp2
      go_ret
      exact ⟨rfl, ((Below.refl _ _).alloc (Nat.le_refl _) _).trans (hb1.mono (by simp))⟩
end Go.Proofs.Ytjmbpnogicdkgaa
