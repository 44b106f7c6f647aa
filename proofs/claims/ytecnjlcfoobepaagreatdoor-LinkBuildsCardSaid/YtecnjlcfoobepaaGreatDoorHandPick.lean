import Derived.Test.YtecnjlcfoobepaaGreatDoorProg
import Derived.Test.YtecnjlcfoobepaaGreatDoorMathA
import Derived.Test.YtecnjlcfoobepaaGreatDoorMem
import Derived.Deep.RegionWith
import Derived.Deep.RegionHeld3
import Derived.Deep.QuietTactic
import Derived.BigQuiet
namespace Go.Proofs.YtecnjlcfoobepaaGreatDoor
open Go.RowKit
set_option linter.unusedSimpArgs false
set_option linter.unusedVariables false
theorem emod_of_tmod (n : Int) (m : Nat) (hm : 1 <= m) : n % (m : Int) = if n.tmod m < 0 then n.tmod m + m else n.tmod m := by
 have hr1 : n.tmod m < m := Int.tmod_lt_of_pos n (by omega)
 have hr2 : -(m : Int) < n.tmod m := Int.lt_tmod_of_pos n (by omega)
 have hq := Int.mul_tdiv_add_tmod n m
 have e : n % (m : Int) = (n.tmod m) % (m : Int) := by
  conv => lhs; rw [<- hq]
  exact Int.mul_add_emod_self_left _ _ _
 rw [e]
 split
 ·rw [<- Int.add_emod_right, Int.emod_eq_of_lt (by omega) (by omega)]
 rw [Int.emod_eq_of_lt (by omega) (by omega)]
theorem hand_pick (n : Int) (m : Nat) (w : World) (h0 : -9223372036854775808 <= n) (h1 : n <= 9223372036854775807) (hm : 1 <= m) (hm2 : m <= 4611686018427387904) :
  Calls Tryz.prog 14 #[.int .i64 n, .int .i64 (m : Int)] w fun e w' => e = .returned (.int .i64 (n % (m : Int))) /\ w = w' := by
 have hr1 : n.tmod m < m := Int.tmod_lt_of_pos n (by omega)
 have hr2 : -(m : Int) < n.tmod m := Int.lt_tmod_of_pos n (by omega)
 have he := lh (emod_of_tmod n m hm)
 have hz : ((m : Int) == 0) = false := by simp; omega
 by_cases h : n.tmod m < 0
 ·go_enter Tryz.func14, Tryz.ntmps14
  go_wp2
  go_ret
  exact ⟨ret_int (by rw [he.out, if_pos h]), rfl⟩
 go_enter Tryz.func14, Tryz.ntmps14
 go_wp2
 go_ret
 exact ⟨ret_int (by rw [he.out, if_neg (by omega)]), rfl⟩
end Go.Proofs.YtecnjlcfoobepaaGreatDoor
