/-
  nat.word, nat.Of, nat.Bits, nat.words, nat.Bytes.
-/
import Derived.Test.YtjmbpnogicdkgaaProg
import Derived.Test.YtjmbpnogicdkgaaShelf
import Derived.Test.YtjmbpnogicdkgaaNatMath
import Derived.Deep.QuietTactic
import Derived.BigQuiet
namespace Go.Proofs.Ytjmbpnogicdkgaa
open Go.RowKit
set_option linter.unusedSimpArgs false
set_option linter.unusedVariables false

/-- the byte at i of a string whose bytes are known -/
theorem run_byte {P : Program} (t : TypeId) (ht : P.underlying t = some .string) (s : ByteArray) (l : List UInt8) (hs : s.data.toList = l) (k : IntKind) (i : Int) (h0 : 0 ≤ i) (x : UInt8) (hx : l[i.toNat]? = some x) (w : World) :
    (Instr.index t (.string s) (.int k i)).run P w = .ok (.int .u8 (x.toNat : Int)) w := by
  subst hs
  have hi : i.toNat < s.size := by
    have := (List.getElem?_eq_some_iff.1 hx).1
    simpa using this
  have hx2 : s[i.toNat]'hi = x := by
    have := (List.getElem?_eq_some_iff.1 hx).2
    simp at this
    exact this
  rw [run_index_string w t s k i ht, dif_pos ⟨h0, by omega⟩, hx2]

theorem or_step (a b k : Nat) (ha : a < 2 ^ k) (hb : b < 256) (hk : k + 8 ≤ 64) : bits .or .u64 (a : Int) (IntKind.u64.wrap (IntKind.u64.wrap (b : Int) * ((2 ^ k : Nat) : Int))) = ((a + b * 2 ^ k : Nat) : Int) := by
  have h1 : b * 2 ^ k < 18446744073709551616 := by
    have h2 : b * 2 ^ k < 256 * 2 ^ k := Nat.mul_lt_mul_of_pos_right hb (Nat.two_pow_pos k)
    have h3 : 256 * 2 ^ k = 2 ^ (k + 8) := by rw [Nat.pow_add, Nat.mul_comm]
    have h4 : 2 ^ (k + 8) ≤ 2 ^ 64 := Nat.pow_le_pow_right (by omega) hk
    omega
  have h5 : a < 18446744073709551616 := by
    have h4 : 2 ^ k ≤ 2 ^ 64 := Nat.pow_le_pow_right (by omega) (by omega)
    omega
  rw [wrap_u64_nat, Nat.mod_eq_of_lt (by omega), ← Int.natCast_mul, wrap_u64_nat, Nat.mod_eq_of_lt h1, or_u64 _ _ h5 h1]
  rw [Nat.add_comm a, Nat.mul_comm b, Nat.two_pow_add_eq_or_of_lt ha, Nat.or_comm]
theorem or_all (b0 b1 b2 b3 b4 b5 b6 b7 : UInt8) :
    bits .or .u64 (bits .or .u64 (bits .or .u64 (bits .or .u64 (bits .or .u64 (bits .or .u64 (bits .or .u64 (IntKind.u64.wrap (b0.toNat : Int)) (IntKind.u64.wrap (IntKind.u64.wrap (b1.toNat : Int) * 256))) (IntKind.u64.wrap (IntKind.u64.wrap (b2.toNat : Int) * 65536)))
      (IntKind.u64.wrap (IntKind.u64.wrap (b3.toNat : Int) * 16777216))) (IntKind.u64.wrap (IntKind.u64.wrap (b4.toNat : Int) * 4294967296))) (IntKind.u64.wrap (IntKind.u64.wrap (b5.toNat : Int) * 1099511627776)))
      (IntKind.u64.wrap (IntKind.u64.wrap (b6.toNat : Int) * 281474976710656))) (IntKind.u64.wrap (IntKind.u64.wrap (b7.toNat : Int) * 72057594037927936)) =
    ((b0.toNat + b1.toNat * 256 + b2.toNat * 65536 + b3.toNat * 16777216 + b4.toNat * 4294967296 + b5.toNat * 1099511627776 + b6.toNat * 281474976710656 + b7.toNat * 72057594037927936 : Nat) : Int) := by
  have h0 := b0.toNat_lt
  have h1 := b1.toNat_lt
  have h2 := b2.toNat_lt
  have h3 := b3.toNat_lt
  have h4 := b4.toNat_lt
  have h5 := b5.toNat_lt
  have h6 := b6.toNat_lt
  have h7 := b7.toNat_lt
  rw [wrap_u64_nat b0.toNat, Nat.mod_eq_of_lt (by omega)]
  have e1 : bits .or .u64 ((b0.toNat : Nat) : Int) (IntKind.u64.wrap (IntKind.u64.wrap (b1.toNat : Int) * 256)) = ((b0.toNat + b1.toNat * 256 : Nat) : Int) := or_step (b0.toNat) b1.toNat 8 (by omega) (by omega) (by omega)
  rw [e1]
  have e2 : bits .or .u64 ((b0.toNat + b1.toNat * 256 : Nat) : Int) (IntKind.u64.wrap (IntKind.u64.wrap (b2.toNat : Int) * 65536)) = ((b0.toNat + b1.toNat * 256 + b2.toNat * 65536 : Nat) : Int) := or_step (b0.toNat + b1.toNat * 256) b2.toNat 16 (by omega) (by omega) (by omega)
  rw [e2]
  have e3 : bits .or .u64 ((b0.toNat + b1.toNat * 256 + b2.toNat * 65536 : Nat) : Int) (IntKind.u64.wrap (IntKind.u64.wrap (b3.toNat : Int) * 16777216)) = ((b0.toNat + b1.toNat * 256 + b2.toNat * 65536 + b3.toNat * 16777216 : Nat) : Int) := or_step (b0.toNat + b1.toNat * 256 + b2.toNat * 65536) b3.toNat 24 (by omega) (by omega) (by omega)
  rw [e3]
  have e4 : bits .or .u64 ((b0.toNat + b1.toNat * 256 + b2.toNat * 65536 + b3.toNat * 16777216 : Nat) : Int) (IntKind.u64.wrap (IntKind.u64.wrap (b4.toNat : Int) * 4294967296)) = ((b0.toNat + b1.toNat * 256 + b2.toNat * 65536 + b3.toNat * 16777216 + b4.toNat * 4294967296 : Nat) : Int) := or_step (b0.toNat + b1.toNat * 256 + b2.toNat * 65536 + b3.toNat * 16777216) b4.toNat 32 (by omega) (by omega) (by omega)
  rw [e4]
  have e5 : bits .or .u64 ((b0.toNat + b1.toNat * 256 + b2.toNat * 65536 + b3.toNat * 16777216 + b4.toNat * 4294967296 : Nat) : Int) (IntKind.u64.wrap (IntKind.u64.wrap (b5.toNat : Int) * 1099511627776)) = ((b0.toNat + b1.toNat * 256 + b2.toNat * 65536 + b3.toNat * 16777216 + b4.toNat * 4294967296 + b5.toNat * 1099511627776 : Nat) : Int) := or_step (b0.toNat + b1.toNat * 256 + b2.toNat * 65536 + b3.toNat * 16777216 + b4.toNat * 4294967296) b5.toNat 40 (by omega) (by omega) (by omega)
  rw [e5]
  have e6 : bits .or .u64 ((b0.toNat + b1.toNat * 256 + b2.toNat * 65536 + b3.toNat * 16777216 + b4.toNat * 4294967296 + b5.toNat * 1099511627776 : Nat) : Int) (IntKind.u64.wrap (IntKind.u64.wrap (b6.toNat : Int) * 281474976710656)) = ((b0.toNat + b1.toNat * 256 + b2.toNat * 65536 + b3.toNat * 16777216 + b4.toNat * 4294967296 + b5.toNat * 1099511627776 + b6.toNat * 281474976710656 : Nat) : Int) := or_step (b0.toNat + b1.toNat * 256 + b2.toNat * 65536 + b3.toNat * 16777216 + b4.toNat * 4294967296 + b5.toNat * 1099511627776) b6.toNat 48 (by omega) (by omega) (by omega)
  rw [e6]
  have e7 : bits .or .u64 ((b0.toNat + b1.toNat * 256 + b2.toNat * 65536 + b3.toNat * 16777216 + b4.toNat * 4294967296 + b5.toNat * 1099511627776 + b6.toNat * 281474976710656 : Nat) : Int) (IntKind.u64.wrap (IntKind.u64.wrap (b7.toNat : Int) * 72057594037927936)) = ((b0.toNat + b1.toNat * 256 + b2.toNat * 65536 + b3.toNat * 16777216 + b4.toNat * 4294967296 + b5.toNat * 1099511627776 + b6.toNat * 281474976710656 + b7.toNat * 72057594037927936 : Nat) : Int) := or_step (b0.toNat + b1.toNat * 256 + b2.toNat * 65536 + b3.toNat * 16777216 + b4.toNat * 4294967296 + b5.toNat * 1099511627776 + b6.toNat * 281474976710656) b7.toNat 56 (by omega) (by omega) (by omega)
  rw [e7]
set_option maxRecDepth 100000 in
set_option maxHeartbeats 1000000 in
theorem nat_word (s : ByteArray) (b0 b1 b2 b3 b4 b5 b6 b7 : UInt8) (r : List UInt8) (hs : s.data.toList = b0 :: b1 :: b2 :: b3 :: b4 :: b5 :: b6 :: b7 :: r) (w : World) :
    Calls Try.prog 53 #[.string s] w fun e w' => e = .returned (.int .u64 ((b0.toNat + b1.toNat * 256 + b2.toNat * 65536 + b3.toNat * 16777216 + b4.toNat * 4294967296 + b5.toNat * 1099511627776 + b6.toNat * 281474976710656 + b7.toNat * 72057594037927936 : Nat) : Int)) ∧ ∃ k, w' = w.drewN k := by
  have i0 := run_byte (P := Try.prog) 9 Try.underlying9 s _ hs .i64 0 (by omega) b0 rfl
  have i1 := run_byte (P := Try.prog) 9 Try.underlying9 s _ hs .i64 1 (by omega) b1 rfl
  have i2 := run_byte (P := Try.prog) 9 Try.underlying9 s _ hs .i64 2 (by omega) b2 rfl
  have i3 := run_byte (P := Try.prog) 9 Try.underlying9 s _ hs .i64 3 (by omega) b3 rfl
  have i4 := run_byte (P := Try.prog) 9 Try.underlying9 s _ hs .i64 4 (by omega) b4 rfl
  have i5 := run_byte (P := Try.prog) 9 Try.underlying9 s _ hs .i64 5 (by omega) b5 rfl
  have i6 := run_byte (P := Try.prog) 9 Try.underlying9 s _ hs .i64 6 (by omega) b6 rfl
  have i7 := run_byte (P := Try.prog) 9 Try.underlying9 s _ hs .i64 7 (by omega) b7 rfl
  clear hs
  go_enter Try.func53, Try.ntmps53
  go_wp2
  go_quiet (fail)
  go_wp2
  go_ret
  exact ⟨ret_int (or_all b0 b1 b2 b3 b4 b5 b6 b7), _, rfl⟩
theorem leB_sum (x : Nat) (hx : x < 18446744073709551616) :
    (UInt8.ofNat x).toNat + (UInt8.ofNat (x / 256)).toNat * 256 + (UInt8.ofNat (x / 65536)).toNat * 65536 + (UInt8.ofNat (x / 16777216)).toNat * 16777216 + (UInt8.ofNat (x / 4294967296)).toNat * 4294967296 + (UInt8.ofNat (x / 1099511627776)).toNat * 1099511627776 + (UInt8.ofNat (x / 281474976710656)).toNat * 281474976710656 + (UInt8.ofNat (x / 72057594037927936)).toNat * 72057594037927936 = x := by
  simp only [UInt8.toNat_ofNat']
  omega
/-- word of a string that begins with the bytes of x -/
theorem nat_word_le (s : ByteArray) (x : Nat) (r : List UInt8) (hx : x < 18446744073709551616) (hs : s.data.toList = leB x ++ r) (w : World) :
    Calls Try.prog 53 #[.string s] w fun e w' => e = .returned (.int .u64 (x : Int)) ∧ ∃ k, w' = w.drewN k := by
  have := nat_word s _ _ _ _ _ _ _ _ r hs w
  rw [leB_sum x hx] at this
  exact this
end Go.Proofs.Ytjmbpnogicdkgaa
