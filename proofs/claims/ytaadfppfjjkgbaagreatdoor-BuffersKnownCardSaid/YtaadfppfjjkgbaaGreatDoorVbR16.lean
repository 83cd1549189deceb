/- Facts of calls: their runs. -/
import Derived.Test.YtaadfppfjjkgbaaGreatDoorVbF
namespace Go.Proofs.YtaadfppfjjkgbaaGreatDoor.Vm
open Go

set_option maxRecDepth 100000 in
theorem ru28 : runF (cfg li28) 3000 fa28 = true := by kernel_rfl
end Go.Proofs.YtaadfppfjjkgbaaGreatDoor.Vm
