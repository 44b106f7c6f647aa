import Derived.Test.YtcoloflmigcphaaGreatDoorRefShift
namespace Go.Proofs.YtcoloflmigcphaaGreatDoor
open Go.RowKit
set_option linter.all false
theorem Jp4 {P : Program} {f : FuncId} {args : Array Value} {w : World} {n : Nat} {v : Value} (h : Calls P f args (w.drewN n) fun e w' => e = .returned v /\ w.drewN n = w') : Calls P f args (w.drewN n) fun e w'' => e = .returned v /\ ∃ m, w'' = w.drewN m :=
 h.mono fun _ _ ⟨he, hm⟩ => ⟨he, n, hm.symm⟩
