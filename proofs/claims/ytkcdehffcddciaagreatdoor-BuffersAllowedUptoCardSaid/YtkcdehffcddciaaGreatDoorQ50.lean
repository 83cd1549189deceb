/- Facts of calls: their runs. -/
import Derived.Test.YtkcdehffcddciaaGreatDoorQ43
namespace Go.Proofs.YtkcdehffcddciaaGreatDoor.Vm
open Go
set_option maxRecDepth 100000 in
theorem ru21:runF (cfg li21) 3000 fa21=true:=by kernel_rfl
set_option maxRecDepth 100000 in
theorem ru22:runF (cfg li22) 3000 fa22=true:=by kernel_rfl
set_option maxRecDepth 100000 in
theorem ru23:runF (cfg li23) 3000 fa23=true:=by kernel_rfl
set_option maxRecDepth 100000 in
theorem ru24:runF (cfg li24) 3000 fa24=true:=by kernel_rfl
set_option maxRecDepth 100000 in
theorem ru25:runF (cfg li25) 3000 fa25=true:=by kernel_rfl
end Go.Proofs.YtkcdehffcddciaaGreatDoor.Vm
