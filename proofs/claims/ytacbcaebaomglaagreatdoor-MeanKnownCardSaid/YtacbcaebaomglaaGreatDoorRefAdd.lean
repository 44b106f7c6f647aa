import Derived.Test.YtacbcaebaomglaaGreatDoorRefShift
namespace Go.Proofs.YtacbcaebaomglaaGreatDoor
open Go.RowKit
set_option linter.all false
