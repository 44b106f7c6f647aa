/-
  dice.Fork and chapter 5's example.
-/
import Derived.Test.YtjmbpnogicdkgaaDiceWalks
import Derived.Test.YtjmbpnogicdkgaaSum
namespace Go.Proofs.Ytjmbpnogicdkgaa
open Go.RowKit
set_option linter.unusedSimpArgs false
set_option linter.unusedVariables false

theorem dice_known (w : World) : Calls Try.prog 9 #[] w (Ret (.bool true) w) := by
  have n0 := Dice.next_zero
  have s0 := Dice.step_zero
  go_enter Try.func9, Try.ntmps9
  go_wp2_with fail
  refine (dice_new 0 _).mono ?_
  rintro e w1 ⟨rfl, rfl⟩
  go_wp2_with fail
  refine (dice_next _ 0 _ (by omega) (by simp) (by simp)).mono ?_
  rintro e w1 ⟨rfl, rfl⟩
  rw [n0, s0]
  go_wp2_with fail
  refine (dice_state _ 11400714819323198485 _ (by simp)).mono ?_
  rintro e w1 ⟨rfl, rfl⟩
  go_wp2
  go_ret
  exact ⟨rfl, by go_grown⟩

theorem dice_fork (b s : Nat) (nm : ByteArray) (w : World) (hs : s < 18446744073709551616) (hc : w.cell? ⟨b, 0, none⟩ = some (.int .u64 (s : Int))) (hf : w.frozen? ⟨b, 0, none⟩ = false)
    (hm : nm.size ≤ 9223372036854775807) :
    Calls Try.prog 10 #[.pointer (some ⟨b, 0, none⟩), .string nm] w fun e w' => ∃ g, e = .returned (.pointer (some ⟨g, 0, none⟩)) ∧ w.heap.size ≤ g ∧
      Blk w' g 58 #[.int .u64 ((Dice.next s ^^^ fnv nm.data.toList : Nat) : Int)] ∧ Below w.heap.size (w.setCell ⟨b, 0, none⟩ (.int .u64 ((Dice.step s : Nat) : Int))) w' := by
  have kc := fun (w : World) => Lib.run_convert_string_bytes (P := Try.prog) w 9 29 5 nm Try.underlying9 Try.underlying29 Try.underlying5
  have hx := xor_u64 (Dice.next s) (fnv nm.data.toList) (Dice.next_lt s) (fnv_lt _)
  go_enter Try.func10, Try.ntmps10
  go_wp2_with fail
  refine (dice_next b s _ hs hc hf).mono ?_
  rintro e w1 ⟨rfl, rfl⟩
  go_wp2_with fail
  have hby := bytes_bytesWorld (w.setCell ⟨b, 0, none⟩ (.int .u64 ((Dice.step s : Nat) : Int))) 5 nm
  rw [World.size_setCell] at hby
  refine (octet_sum _ _ _ _ _ _ hby hm).mono ?_
  rintro e w1 ⟨rfl, rfl⟩
  go_wp2_with fail
  refine (dice_new _ _).mono ?_
  rintro e w1 ⟨rfl, rfl⟩
  go_wp2
  go_ret
  refine ⟨_, rfl, ?_, Blk.new _ _ _, ?_⟩
  · rw [Lib.bytesWorld_size]; simp
  · have hb := below_bytesWorld (w.setCell ⟨b, 0, none⟩ (.int .u64 ((Dice.step s : Nat) : Int))) 5 nm
    have hz := hb.size
    simp at hb hz
    exact hb.alloc (by omega) _
end Go.Proofs.Ytjmbpnogicdkgaa
