import Derived.Test.YtacbcaebaomglaaGreatDoorRefQ
namespace Go.Proofs.YtacbcaebaomglaaGreatDoor
open Go.RowKit
set_option linter.all false
