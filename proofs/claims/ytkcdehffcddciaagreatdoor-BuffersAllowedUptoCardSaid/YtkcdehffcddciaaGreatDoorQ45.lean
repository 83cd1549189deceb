/- Facts of calls: their runs. -/
import Derived.Test.YtkcdehffcddciaaGreatDoorQ43
namespace Go.Proofs.YtkcdehffcddciaaGreatDoor.Vm
open Go
set_option maxRecDepth 100000 in
theorem ru2:runF (cfg li2) 3000 fa2=true:=by kernel_rfl
set_option maxRecDepth 100000 in
theorem ru3:runF (cfg li3) 3000 fa3=true:=by kernel_rfl
end Go.Proofs.YtkcdehffcddciaaGreatDoor.Vm
