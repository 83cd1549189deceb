/- Facts of calls: their runs. -/
import Derived.Test.YtkcdehffcddciaaGreatDoorQ43
namespace Go.Proofs.YtkcdehffcddciaaGreatDoor.Vm
open Go
set_option maxRecDepth 100000 in
theorem ru7:runF (cfg li7) 3000 fa7=true:=by kernel_rfl
set_option maxRecDepth 100000 in
theorem ru8:runF (cfg li8) 3000 fa8=true:=by kernel_rfl
set_option maxRecDepth 100000 in
theorem ru9:runF (cfg li9) 3000 fa9=true:=by kernel_rfl
end Go.Proofs.YtkcdehffcddciaaGreatDoor.Vm
