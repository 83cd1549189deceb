/- Facts of calls: their runs. -/
import Derived.Test.YtkcdehffcddciaaGreatDoorQ43
namespace Go.Proofs.YtkcdehffcddciaaGreatDoor.Vm
open Go
set_option maxRecDepth 100000 in
theorem ru6:runF (cfg li6) 3000 fa6=true:=by kernel_rfl
end Go.Proofs.YtkcdehffcddciaaGreatDoor.Vm
