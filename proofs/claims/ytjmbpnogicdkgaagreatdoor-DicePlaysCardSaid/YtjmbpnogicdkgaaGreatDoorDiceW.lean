/-
  The walks of package dice: New, Next, State, and the check of chapter 5's example.
  dice.Fork and chapter 5's example.
-/
import Derived.Test.YtjmbpnogicdkgaaGreatDoorProg
import Derived.Test.YtjmbpnogicdkgaaGreatDoorMathA
import Derived.Test.YtjmbpnogicdkgaaGreatDoorOctet
/-! The walks of package dice: New, Next, State, and the check of chapter 5's example. -/
namespace Go.Proofs.YtjmbpnogicdkgaaGreatDoor
open Go.RowKit
set_option linter.unusedSimpArgs false
set_option linter.unusedVariables false

theorem dice_new (s : Nat) (w : World) :
    Calls Tryz.prog 21 #[.int .u64 (s : Int)] w fun e w' => e = .returned (.pointer (some ⟨w.heap.size, 0, none⟩)) ∧ w.alloc (.cells #[.int .u64 (s : Int)] 125) = w' := by
  go_enter Tryz.func21, Tryz.ntmps21
  go_wp2
  go_ret
  exact ⟨rfl, rfl⟩

theorem dice_state (b s : Nat) (w : World) (hc : w.cell? ⟨b, 0, none⟩ = some (.int .u64 (s : Int))) :
    Calls Tryz.prog 34 #[.pointer (some ⟨b, 0, none⟩)] w fun e w' => e = .returned (.int .u64 (s : Int)) ∧ w = w' := by
  go_enter Tryz.func34, Tryz.ntmps34
  go_wp2
  go_ret
  exact ⟨rfl, rfl⟩

theorem dice_next (b s : Nat) (w : World) (hs : s < 18446744073709551616) (hc : w.cell? ⟨b, 0, none⟩ = some (.int .u64 (s : Int))) (hf : w.frozen? ⟨b, 0, none⟩ = false) :
    Calls Tryz.prog 44 #[.pointer (some ⟨b, 0, none⟩)] w fun e w' => e = .returned (.int .u64 ((Dice.next s : Nat) : Int)) ∧ w.setCell ⟨b, 0, none⟩ (.int .u64 ((Dice.step s : Nat) : Int)) = w' := by
  have e1 := Dice.step_walk s
  have e2 := Dice.mixA_walk (Dice.step s) (Dice.step_lt s)
  have e3 := Dice.mixB_walk (Dice.mixA (Dice.step s)) (Dice.mixA_lt _)
  have e4 := Dice.mixC_walk (Dice.mixB (Dice.mixA (Dice.step s))) (Dice.mixB_lt _)
  go_enter Tryz.func44, Tryz.ntmps44
  go_wp2
  go_ret

  exact ⟨rfl, rfl⟩
end Go.Proofs.YtjmbpnogicdkgaaGreatDoor

/-! dice.Fork and chapter 5's example. -/
namespace Go.Proofs.YtjmbpnogicdkgaaGreatDoor
open Go.RowKit
set_option linter.unusedSimpArgs false
set_option linter.unusedVariables false

theorem dice_known (w : World) : Calls Tryz.prog 22 #[] w (Ret (.bool true) w) := by
  have n0 := Dice.next_zero
  have s0 := Dice.step_zero
  go_enter Tryz.func22, Tryz.ntmps22
  go_wp2_with fail
  refine (dice_new 0 _).mono ?_
  rintro e w1 ⟨rfl, rfl⟩
  go_wp2_with fail
  refine (dice_next _ 0 _ (by omega) (by simp) (by simp)).mono ?_
  rintro e w1 ⟨rfl, rfl⟩
  rw [n0, s0]
  go_wp2_with fail
  refine (dice_state _ 11400714819323198485 _ (by simp)).mono ?_
  rintro e w1 ⟨rfl, rfl⟩
  go_wp2
  go_ret
  exact ⟨rfl, by go_grown⟩

theorem dice_fork (b s : Nat) (nm : ByteArray) (w : World) (hs : s < 18446744073709551616) (hc : w.cell? ⟨b, 0, none⟩ = some (.int .u64 (s : Int))) (hf : w.frozen? ⟨b, 0, none⟩ = false)
    (hm : nm.size ≤ 9223372036854775807) :
    Calls Tryz.prog 54 #[.pointer (some ⟨b, 0, none⟩), .string nm] w fun e w' => ∃ g, e = .returned (.pointer (some ⟨g, 0, none⟩)) ∧ w.heap.size ≤ g ∧
      Blk w' g 125 #[.int .u64 ((Dice.next s ^^^ fnv nm.data.toList : Nat) : Int)] ∧ Below w.heap.size (w.setCell ⟨b, 0, none⟩ (.int .u64 ((Dice.step s : Nat) : Int))) w' := by
  have kc := fun (w : World) => Lib.run_convert_string_bytes (P := Tryz.prog) w 9 22 5 nm Tryz.underlying9 Tryz.underlying22 Tryz.underlying5
  have hx := xor_u64 (Dice.next s) (fnv nm.data.toList) (Dice.next_lt s) (fnv_lt _)
  go_enter Tryz.func54, Tryz.ntmps54
  go_wp2_with fail
  refine (dice_next b s _ hs hc hf).mono ?_
  rintro e w1 ⟨rfl, rfl⟩
  go_wp2_with fail
  have hby := bytes_bytesWorld (w.setCell ⟨b, 0, none⟩ (.int .u64 ((Dice.step s : Nat) : Int))) 5 nm
  rw [World.size_setCell] at hby
  refine (octet_sum _ _ _ _ _ _ hby hm).mono ?_
  rintro e w1 ⟨rfl, rfl⟩
  go_wp2_with fail
  refine (dice_new _ _).mono ?_
  rintro e w1 ⟨rfl, rfl⟩
  go_wp2
  go_ret
  refine ⟨_, rfl, ?_, Blk.new _ _ _, ?_⟩
  · rw [Lib.bytesWorld_size]; simp
  · have hb := below_bytesWorld (w.setCell ⟨b, 0, none⟩ (.int .u64 ((Dice.step s : Nat) : Int))) 5 nm
    have hz := hb.size
    simp at hb hz
    exact hb.alloc (by omega) _
end Go.Proofs.YtjmbpnogicdkgaaGreatDoor
