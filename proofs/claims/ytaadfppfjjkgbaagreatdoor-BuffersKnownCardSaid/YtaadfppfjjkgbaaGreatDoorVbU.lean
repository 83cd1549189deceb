/- BuffersKnown, run by the small machine: what its functions are like; the package's table. -/
import Derived.Test.YtaadfppfjjkgbaaGreatDoorVmY
import Derived.Test.YtaadfppfjjkgbaaGreatDoorProg
import Derived.KernelRfl
namespace Go.Proofs.YtaadfppfjjkgbaaGreatDoor.Vm
open Go

/-- The functions that the law reaches. -/
def fsL : List Nat := [3, 4, 5, 6, 7, 8, 9, 10, 11, 12, 13, 14, 15, 16, 17, 18, 19, 20, 21, 22, 23, 24, 25, 26, 27, 28, 29, 30, 31, 32, 33, 34, 35, 36, 37, 38, 39, 40, 41, 42, 43, 44, 45, 46, 47, 48, 49, 50, 51, 52, 53, 54, 55, 56, 58, 59, 60, 63, 64, 65, 66, 67, 68, 69, 70, 71, 72, 73, 74, 75, 76, 77, 78, 79, 80, 81, 82, 83, 84, 85, 86, 87, 88, 89, 90, 91, 92, 93, 94, 95, 96, 97, 98, 99, 100, 101, 102, 103, 106, 107, 108, 109, 110, 111, 112, 113, 115, 116, 117, 118, 119, 120, 121, 122, 123, 124, 133, 134, 135, 136, 137, 138, 139, 140, 141, 142, 143, 144, 145, 146, 147, 148, 149, 150, 151, 152, 153, 154, 155, 156, 157, 158, 159, 160, 161, 163, 164, 167, 177, 178, 179, 180, 181, 182, 183, 184, 185, 186, 187, 188, 189, 190, 191, 192, 194, 195, 196, 197, 198, 199, 204, 205, 206, 208, 209, 210, 211]
def bits : List Nat → Nat
  | [] => 0
  | k :: l => 2 ^ k ||| bits l
def fsB : Nat := 6352213534560983837503025146484940109301078154258565154681651192
/-- Regions that are not run. -/
noncomputable def skB (f : FuncId) : Nat := br (Nat.beq f 63) 2336462209024 0
def fitFn (sk : Nat) (fn : Func) : Bool := !(fn.name == "runtime.NumGoroutine") && (match fn.body with | some c => dokC sk c | none => true)
noncomputable def fitAll (P : Program) (l : List Nat) : Bool := l.all fun f => match P.funcs[f]? with | some fn => fitFn (skB f) fn | none => true
def tab0 : Option PO := some (.ro (some 0) 0 [(.i .u8 (.ofNat 0)), (.i .u8 (.ofNat 1)), (.i .u8 (.ofNat 56)), (.i .u8 (.ofNat 2)), (.i .u8 (.ofNat 57)), (.i .u8 (.ofNat 49)), (.i .u8 (.ofNat 28)), (.i .u8 (.ofNat 3)), (.i .u8 (.ofNat 61)), (.i .u8 (.ofNat 58)), (.i .u8 (.ofNat 42)), (.i .u8 (.ofNat 50)), (.i .u8 (.ofNat 38)), (.i .u8 (.ofNat 29)), (.i .u8 (.ofNat 17)), (.i .u8 (.ofNat 4)), (.i .u8 (.ofNat 62)), (.i .u8 (.ofNat 47)), (.i .u8 (.ofNat 59)), (.i .u8 (.ofNat 36)), (.i .u8 (.ofNat 45)), (.i .u8 (.ofNat 43)), (.i .u8 (.ofNat 51)), (.i .u8 (.ofNat 22)), (.i .u8 (.ofNat 53)), (.i .u8 (.ofNat 39)), (.i .u8 (.ofNat 33)), (.i .u8 (.ofNat 30)), (.i .u8 (.ofNat 24)), (.i .u8 (.ofNat 18)), (.i .u8 (.ofNat 12)), (.i .u8 (.ofNat 5)), (.i .u8 (.ofNat 63)), (.i .u8 (.ofNat 55)), (.i .u8 (.ofNat 48)), (.i .u8 (.ofNat 27)), (.i .u8 (.ofNat 60)), (.i .u8 (.ofNat 41)), (.i .u8 (.ofNat 37)), (.i .u8 (.ofNat 16)), (.i .u8 (.ofNat 46)), (.i .u8 (.ofNat 35)), (.i .u8 (.ofNat 44)), (.i .u8 (.ofNat 21)), (.i .u8 (.ofNat 52)), (.i .u8 (.ofNat 32)), (.i .u8 (.ofNat 23)), (.i .u8 (.ofNat 11)), (.i .u8 (.ofNat 54)), (.i .u8 (.ofNat 26)), (.i .u8 (.ofNat 40)), (.i .u8 (.ofNat 15)), (.i .u8 (.ofNat 34)), (.i .u8 (.ofNat 20)), (.i .u8 (.ofNat 31)), (.i .u8 (.ofNat 10)), (.i .u8 (.ofNat 25)), (.i .u8 (.ofNat 14)), (.i .u8 (.ofNat 19)), (.i .u8 (.ofNat 9)), (.i .u8 (.ofNat 13)), (.i .u8 (.ofNat 8)), (.i .u8 (.ofNat 7)), (.i .u8 (.ofNat 6))])
noncomputable def cfg (fs : List Fact) : Cfg := ⟨Tryz.prog, 0, fsB, skB, factsF fs⟩
set_option maxRecDepth 100000 in
theorem fit_all : fitAll Tryz.prog fsL = true := by kernel_rfl
theorem fs_bits : bits fsL = fsB := by decide +kernel
set_option maxRecDepth 100000 in
theorem mixed : (Tryz.prog).follows .mixedOrders = true := by kernel_rfl
end Go.Proofs.YtaadfppfjjkgbaaGreatDoor.Vm
