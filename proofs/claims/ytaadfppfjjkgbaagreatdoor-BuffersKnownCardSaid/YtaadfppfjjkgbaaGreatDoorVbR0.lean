/- Facts of calls: their runs. -/
import Derived.Test.YtaadfppfjjkgbaaGreatDoorVbF
namespace Go.Proofs.YtaadfppfjjkgbaaGreatDoor.Vm
open Go

set_option maxRecDepth 100000 in
theorem ru0 : runF (cfg li0) 3000 fa0 = true := by kernel_rfl
set_option maxRecDepth 100000 in
theorem ru5 : runF (cfg li5) 3000 fa5 = true := by kernel_rfl
set_option maxRecDepth 100000 in
theorem ru10 : runF (cfg li10) 3000 fa10 = true := by kernel_rfl
set_option maxRecDepth 100000 in
theorem ru11 : runF (cfg li11) 3000 fa11 = true := by kernel_rfl
set_option maxRecDepth 100000 in
theorem ru12 : runF (cfg li12) 3000 fa12 = true := by kernel_rfl
set_option maxRecDepth 100000 in
theorem ru13 : runF (cfg li13) 3000 fa13 = true := by kernel_rfl
set_option maxRecDepth 100000 in
theorem ru14 : runF (cfg li14) 3000 fa14 = true := by kernel_rfl
set_option maxRecDepth 100000 in
theorem ru15 : runF (cfg li15) 3000 fa15 = true := by kernel_rfl
set_option maxRecDepth 100000 in
theorem ru16 : runF (cfg li16) 3000 fa16 = true := by kernel_rfl
set_option maxRecDepth 100000 in
theorem ru17 : runF (cfg li17) 3000 fa17 = true := by kernel_rfl
set_option maxRecDepth 100000 in
theorem ru18 : runF (cfg li18) 3000 fa18 = true := by kernel_rfl
set_option maxRecDepth 100000 in
theorem ru19 : runF (cfg li19) 3000 fa19 = true := by kernel_rfl
set_option maxRecDepth 100000 in
theorem ru25 : runF (cfg li25) 3000 fa25 = true := by kernel_rfl
set_option maxRecDepth 100000 in
theorem ru31 : runF (cfg li31) 3000 fa31 = true := by kernel_rfl
end Go.Proofs.YtaadfppfjjkgbaaGreatDoor.Vm
