import Derived.Test.YtcoloflmigcphaaGreatDoorRefQ
namespace Go.Proofs.YtcoloflmigcphaaGreatDoor
open Go.RowKit
set_option linter.all false
