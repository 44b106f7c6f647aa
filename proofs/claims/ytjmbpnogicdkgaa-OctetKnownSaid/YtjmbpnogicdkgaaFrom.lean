/-
  whole.From.
-/
import Derived.Test.YtjmbpnogicdkgaaWhole
import Derived.Test.YtjmbpnogicdkgaaBox
import Derived.Deep.RegionWith
namespace Go.Proofs.Ytjmbpnogicdkgaa
open Go.RowKit
set_option linter.unusedSimpArgs false
set_option linter.unusedVariables false

/-- a number with a sign -/
def signed (neg : Bool) (a : Nat) : Int := if neg then -(a : Int) else (a : Int)
theorem signed_abs (neg : Bool) (a : Nat) : (signed neg a).natAbs = a := by unfold signed; cases neg <;> simp
theorem intV_signed (neg : Bool) (a : Nat) : intV (signed neg a) = .agg #[.bool (neg && decide (0 < a)), .int .u64 (lo a : Int), .string (mo a)] := by
  unfold intV
  rw [signed_abs]
  have : decide (signed neg a < 0) = (neg && decide (0 < a)) := by unfold signed; cases neg <;> simp
  rw [this]

set_option maxRecDepth 100000 in
theorem whole_from (neg : Bool) (a : Nat) (w : World) (ha : blen a ≤ 4611686018427387904) : Calls Try.prog 45 #[.bool neg, natV a] w (Ret (intV (signed neg a)) w) := by
  rw [intV_signed]
  have hp : (0 < blen a) ↔ a ≠ 0 := blen_pos a
  unfold natV
  have b0 := (Blk.new w 51 #[.int .u64 (lo a : Int), .string (mo a)]).alloc (.cells #[.bool false, .int .u64 0, .string ⟨#[]⟩] 53)
  have b1 := Blk.new2 w (.cells #[.int .u64 (lo a : Int), .string (mo a)] 51) 53 #[.bool false, .int .u64 0, .string ⟨#[]⟩]
  have hB := balloc2 w (.cells #[.int .u64 (lo a : Int), .string (mo a)] 51) (.cells #[.bool false, .int .u64 0, .string ⟨#[]⟩] 53)
  cases neg with
  | false =>
    go_enter Try.func45, Try.ntmps45
    go_wp2
    generalize (w.alloc (.cells #[.int .u64 (lo a : Int), .string (mo a)] 51)).alloc (.cells #[.bool false, .int .u64 0, .string ⟨#[]⟩] 53) = W at *
    obtain ⟨b0q0, b0q1, b0f0, b0f1, b0s0, b0s1⟩ := b0.f2; obtain ⟨b1q0, b1q1, b1q2, b1f0, b1f1, b1f2, b1s0, b1s1, b1s2⟩ := b1.f3
    go_region
    go_wp2
    refine bodyPost_ret (v := .agg #[.bool false, .int .u64 (lo a : Int), .string (mo a)]) (by simp [results, Try.results45, go_sem, b1s0, b1s1, b1s2]) rfl ?_
    exact ⟨rfl, bset3 (bdrewN hB 1) (by omega) _ _ _⟩
  | true =>
    have hd : decide (0 < blen a) = decide (0 < a) := by
      rw [decide_eq_decide]
      omega
    have HD := Lib.hid hd
    clear hd hp
    go_enter Try.func45, Try.ntmps45
    go_wp2_with fail
    generalize (w.alloc (.cells #[.int .u64 (lo a : Int), .string (mo a)] 51)).alloc (.cells #[.bool false, .int .u64 0, .string ⟨#[]⟩] 53) = W at *
    obtain ⟨b0q0, b0q1, b0f0, b0f1, b0s0, b0s1⟩ := b0.f2; obtain ⟨b1q0, b1q1, b1q2, b1f0, b1f1, b1f2, b1s0, b1s1, b1s2⟩ := b1.f3
    have c0 := b0.drew
    have c1 := b1.drew
    go_region_with (go_at_call 46; refine (nat_bits a W.drew ha).mono ?_; rintro e w1 ⟨rfl, hb1⟩; (try clear c0q0 c0q1 c0f0 c0f1 c0s0 c0s1); have c0 := c0.below hb1 c0.lt; obtain ⟨c0q0, c0q1, c0f0, c0f1, c0s0, c0s1⟩ := c0.f2; (try clear c1q0 c1q1 c1q2 c1f0 c1f1 c1f2 c1s0 c1s1 c1s2); have c1 := c1.below hb1 c1.lt; obtain ⟨c1q0, c1q1, c1q2, c1f0, c1f1, c1f2, c1s0, c1s1, c1s2⟩ := c1.f3)
    all_goals
      go_wp2
      refine bodyPost_ret (v := .agg #[.bool (decide (0 < blen a)), .int .u64 (lo a : Int), .string (mo a)]) (by simp [results, Try.results45, go_sem, c1s0, c1s1, c1s2]) rfl ?_
      rw [← HD.out]
      exact ⟨rfl, bset3 (bthen hB (bdrew hb1)) (by omega) _ _ _⟩
end Go.Proofs.Ytjmbpnogicdkgaa
