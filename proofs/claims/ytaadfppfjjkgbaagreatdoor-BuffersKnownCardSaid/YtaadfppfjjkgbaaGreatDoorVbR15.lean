/- Facts of calls: their runs. -/
import Derived.Test.YtaadfppfjjkgbaaGreatDoorVbF
namespace Go.Proofs.YtaadfppfjjkgbaaGreatDoor.Vm
open Go

set_option maxRecDepth 100000 in
theorem ru27 : runF (cfg li27) 3000 fa27 = true := by kernel_rfl
end Go.Proofs.YtaadfppfjjkgbaaGreatDoor.Vm
