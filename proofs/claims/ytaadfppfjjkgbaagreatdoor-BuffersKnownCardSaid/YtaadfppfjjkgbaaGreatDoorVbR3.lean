/- Facts of calls: their runs. -/
import Derived.Test.YtaadfppfjjkgbaaGreatDoorVbF
namespace Go.Proofs.YtaadfppfjjkgbaaGreatDoor.Vm
open Go

set_option maxRecDepth 100000 in
theorem ru3 : runF (cfg li3) 3000 fa3 = true := by kernel_rfl
end Go.Proofs.YtaadfppfjjkgbaaGreatDoor.Vm
