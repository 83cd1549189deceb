/- Facts of calls: their runs. -/
import Derived.Test.YtaadfppfjjkgbaaGreatDoorVbF
namespace Go.Proofs.YtaadfppfjjkgbaaGreatDoor.Vm
open Go

set_option maxRecDepth 100000 in
theorem ru32 : runF (cfg li32) 3000 fa32 = true := by kernel_rfl
end Go.Proofs.YtaadfppfjjkgbaaGreatDoor.Vm
