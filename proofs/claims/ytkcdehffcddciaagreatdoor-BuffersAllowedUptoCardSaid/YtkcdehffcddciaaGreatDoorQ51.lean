/- Facts of calls: their runs. -/
import Derived.Test.YtkcdehffcddciaaGreatDoorQ43
namespace Go.Proofs.YtkcdehffcddciaaGreatDoor.Vm
open Go
set_option maxRecDepth 100000 in
theorem ru26:runF (cfg li26) 3000 fa26=true:=by kernel_rfl
set_option maxRecDepth 100000 in
theorem ru27:runF (cfg li27) 3000 fa27=true:=by kernel_rfl
end Go.Proofs.YtkcdehffcddciaaGreatDoor.Vm
