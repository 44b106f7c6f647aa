import Derived.Test.YtcoloflmigcphaaGreatDoorFracM
namespace Go.Proofs.YtcoloflmigcphaaGreatDoor
open Go.RowKit
set_option linter.all false
attribute [local irreducible] lo mo Calls
