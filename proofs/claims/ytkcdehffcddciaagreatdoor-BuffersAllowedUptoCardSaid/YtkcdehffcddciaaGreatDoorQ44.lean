/- Facts of calls: their runs. -/
import Derived.Test.YtkcdehffcddciaaGreatDoorQ43
namespace Go.Proofs.YtkcdehffcddciaaGreatDoor.Vm
open Go
set_option maxRecDepth 100000 in
theorem ru10:runF (cfg li10) 3000 fa10=true:=by kernel_rfl
set_option maxRecDepth 100000 in
theorem ru11:runF (cfg li11) 3000 fa11=true:=by kernel_rfl
set_option maxRecDepth 100000 in
theorem ru12:runF (cfg li12) 3000 fa12=true:=by kernel_rfl
set_option maxRecDepth 100000 in
theorem ru13:runF (cfg li13) 3000 fa13=true:=by kernel_rfl
set_option maxRecDepth 100000 in
theorem ru14:runF (cfg li14) 3000 fa14=true:=by kernel_rfl
set_option maxRecDepth 100000 in
theorem ru15:runF (cfg li15) 3000 fa15=true:=by kernel_rfl
set_option maxRecDepth 100000 in
theorem ru16:runF (cfg li16) 3000 fa16=true:=by kernel_rfl
set_option maxRecDepth 100000 in
theorem ru17:runF (cfg li17) 3000 fa17=true:=by kernel_rfl
set_option maxRecDepth 100000 in
theorem ru18:runF (cfg li18) 3000 fa18=true:=by kernel_rfl
set_option maxRecDepth 100000 in
theorem ru19:runF (cfg li19) 3000 fa19=true:=by kernel_rfl
set_option maxRecDepth 100000 in
theorem ru0:runF (cfg li0) 3000 fa0=true:=by kernel_rfl
set_option maxRecDepth 100000 in
theorem ru1:runF (cfg li1) 3000 fa1=true:=by kernel_rfl
end Go.Proofs.YtkcdehffcddciaaGreatDoor.Vm
