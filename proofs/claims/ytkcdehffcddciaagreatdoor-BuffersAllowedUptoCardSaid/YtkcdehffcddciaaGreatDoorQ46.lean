/- Facts of calls: their runs. -/
import Derived.Test.YtkcdehffcddciaaGreatDoorQ43
namespace Go.Proofs.YtkcdehffcddciaaGreatDoor.Vm
open Go
set_option maxRecDepth 100000 in
theorem ru4:runF (cfg li4) 3000 fa4=true:=by kernel_rfl
set_option maxRecDepth 100000 in
theorem ru5:runF (cfg li5) 3000 fa5=true:=by kernel_rfl
end Go.Proofs.YtkcdehffcddciaaGreatDoor.Vm
