import Derived.Test.YtecnjlcfoobepaaGreatDoorProg
import Derived.Test.YtecnjlcfoobepaaGreatDoorMathA
import Derived.Test.YtecnjlcfoobepaaGreatDoorMem
import Derived.Deep.RegionWith
import Derived.Deep.RegionHeld3
import Derived.Deep.QuietTactic
import Derived.BigQuiet
namespace Go.Proofs.YtecnjlcfoobepaaGreatDoor
open Go.RowKit
set_option linter.unusedSimpArgs false
set_option linter.unusedVariables false
theorem emod_of_tmod (n : Int) (m : Nat) (hm : 1 ≤ m) : n % (m : Int) = if n.tmod m < 0 then n.tmod m + m else n.tmod m := by
 have hr1 : n.tmod m < m := Int.tmod_lt_of_pos n (by omega)
 have hr2 : -(m : Int) < n.tmod m := Int.lt_tmod_of_pos n (by omega)
 have hq := Int.mul_tdiv_add_tmod n m
 have e : n % (m : Int) = (n.tmod m) % (m : Int) := by
  conv => lhs; rw [← hq]
  exact Int.mul_add_emod_self_left _ _ _
 rw [e]
 split
 ·rw [← Int.add_emod_right, Int.emod_eq_of_lt (by omega) (by omega)]
 ·rw [Int.emod_eq_of_lt (by omega) (by omega)]
theorem hand_pick (n : Int) (m : Nat) (w : World) (h0 : -9223372036854775808 ≤ n) (h1 : n ≤ 9223372036854775807) (hm : 1 ≤ m) (hm2 : m ≤ 4611686018427387904) :
  Calls Tryz.prog 14 #[.int .i64 n, .int .i64 (m : Int)] w fun e w' => e = .returned (.int .i64 (n % (m : Int))) ∧ w = w' := by
 have hr1 : n.tmod m < m := Int.tmod_lt_of_pos n (by omega)
 have hr2 : -(m : Int) < n.tmod m := Int.lt_tmod_of_pos n (by omega)
 have he := Lib.hid (emod_of_tmod n m hm)
 have hz : ((m : Int) == 0) = false := by simp; omega
 by_cases h : n.tmod m < 0
 ·go_enter Tryz.func14, Tryz.ntmps14
  go_wp2
  go_ret
  exact ⟨ret_int (by rw [he.out, if_pos h]), rfl⟩
 ·go_enter Tryz.func14, Tryz.ntmps14
  go_wp2
  go_ret
  exact ⟨ret_int (by rw [he.out, if_neg (by omega)]), rfl⟩
set_option maxHeartbeats 400000 in
theorem same_ints (A A' : Option Addr) (n c c' : Nat) (l : List Nat) (B B' : Nat) (w : World) (h : Reads w B 1 A n (l.map iv)) (h' : Reads w B' 1 A' n (l.map iv)) (hn : n ≤ 9223372036854775807) :
  Calls Tryz.prog 42 #[.slice A n c, .slice A' n c'] w fun e w' => e = .returned (.bool true) ∧ ∃ k, w' = w.drewN k := by
 go_enter Tryz.func42, Tryz.ntmps42
 go_wp2
 go_loopw [5] (fun i wr => ∃ k : Nat, k ≤ n ∧ i = .int .i64 k ∧ ∃ d, wr = w.drewN d) (fun i _ => n - (intOf i).toNat)
 case atStart => exact ⟨0, Nat.zero_le _, rfl, 0, rfl⟩
 case round =>
  obtain ⟨k, hk, rfl, d, rfl⟩ := hrel
  by_cases hlt : k < n
  ·obtain ⟨ad, x, hA, hb, hx, hc⟩ := h.atf hlt
   obtain ⟨ad', x', hA', hb', hx', hc'⟩ := h'.atf hlt
   have hxx : x = x' := Option.some.inj (hx.symm.trans hx')
   subst hxx
   clear hx hx'
   subst hA hA'
   unfold iv at hc hc'
   have hlt2 : (k : Int) < (n : Int) := by omega
   go_wp2
   go_quiet (fail)
   go_wp2
   exact ⟨⟨k + 1, by omega, by go_num, _, rfl⟩, by simp [intOf]; omega⟩
  ·go_wp2
   go_ret
   exact ⟨rfl, d, rfl⟩
end Go.Proofs.YtecnjlcfoobepaaGreatDoor
