/-
  octet.Sum: the hash of a list of bytes.
-/
import Derived.Test.YtjmbpnogicdkgaaProg
import Derived.Test.YtjmbpnogicdkgaaNum
namespace Go.Proofs.Ytjmbpnogicdkgaa
open Go.RowKit
set_option linter.unusedSimpArgs false
set_option linter.unusedVariables false

def fnvStep (h : Nat) (c : UInt8) : Nat := ((h ^^^ c.toNat) * 1099511628211) % 18446744073709551616
def fnv (bs : List UInt8) : Nat := bs.foldl fnvStep 14695981039346656037
theorem fnvStep_lt (h : Nat) (c : UInt8) : fnvStep h c < 18446744073709551616 := Nat.mod_lt _ (by omega)
theorem foldl_lt (bs : List UInt8) : ∀ h, h < 18446744073709551616 → bs.foldl fnvStep h < 18446744073709551616 := by
  induction bs with
  | nil => intro h hh; exact hh
  | cons c bs ih => intro h _; exact ih _ (fnvStep_lt _ _)
theorem fnv_lt (bs : List UInt8) : fnv bs < 18446744073709551616 := by
  unfold fnv
  exact foldl_lt bs _ (by omega)
theorem take_snoc {α : Type} (l : List α) (k : Nat) (x : α) (h : l[k]? = some x) : l.take (k + 1) = l.take k ++ [x] := by
  rw [List.take_add_one, h]
  rfl
theorem fnv_take (bs : List UInt8) (k : Nat) (x : UInt8) (h : bs[k]? = some x) : fnv (bs.take (k + 1)) = fnvStep (fnv (bs.take k)) x := by
  unfold fnv
  rw [take_snoc bs k x h, List.foldl_append, List.foldl_cons, List.foldl_nil]
theorem fnvStep_walk (h : Nat) (c : UInt8) (hh : h < 18446744073709551616) : IntKind.u64.wrap (bits .xor .u64 (h : Int) (c.toNat : Int) * 1099511628211) = ((fnvStep h c : Nat) : Int) := by
  rw [xor_u64 h c.toNat hh (by have := c.toNat_lt; omega)]
  exact wrap_u64_nat ((h ^^^ c.toNat) * 1099511628211)
theorem wrap_u64_byte (c : UInt8) : IntKind.u64.wrap (c.toNat : Int) = (c.toNat : Int) := by
  rw [wrap_u64_nat, Nat.mod_eq_of_lt (by have := c.toNat_lt; omega)]

set_option maxHeartbeats 400000 in
theorem octet_sum (A : Option Addr) (n c : Nat) (bs : List UInt8) (B : Nat) (w : World) (hr : Bytes w B A n bs) (hn : n ≤ 9223372036854775807) :
    Calls Try.prog 13 #[.slice A n c] w fun e w' => e = .returned (.int .u64 ((fnv bs : Nat) : Int)) ∧ w = w' := by
  have hl := hr.len
  go_enter Try.func13, Try.ntmps13
  go_wp2
  go_loop [3, 5, 8] (fun h x i => ∃ k : Nat, k ≤ n ∧ i = .int .i64 k ∧ h = .int .u64 ((fnv (bs.take k) : Nat) : Int)) (fun _ _ i => n - (intOf i).toNat)
  case atStart => exact ⟨0, Nat.zero_le _, rfl, rfl⟩
  case round =>
    obtain ⟨k, hk, rfl, rfl⟩ := hrel
    by_cases hlt : k < n
    · obtain ⟨ad, x, hA, hb, hx, hc⟩ := hr.at_ hlt
      subst hA
      have e1 := fnvStep_walk (fnv (bs.take k)) x (fnv_lt _)
      have e2 := wrap_u64_byte x
      have HS := Lib.hid (fnv_take bs k x hx)
      clear hx
      go_wp2
      go_round
      case rel => exact ⟨k + 1, by omega, by go_num, by rw [HS.out]⟩
      case measure => simp [intOf]; omega
    · go_wp2
      go_ret
      exact ⟨ret_int (by rw [List.take_of_length_le (by omega)]), rfl⟩
end Go.Proofs.Ytjmbpnogicdkgaa
