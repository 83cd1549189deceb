/- StepsKnown, run by the small machine: what its functions are like; a memo of calls that look at nothing. -/
import Derived.Test.YtmjilfamjlnigaaGreatQ02
import Derived.Test.YtmjilfamjlnigaaGreatProg
import Derived.KernelRfl
namespace Go.Proofs.YtmjilfamjlnigaaGreat.Vm
open Go

/-- The functions that the law reaches (their numbers are printed by a program: wip/vm/known.py). -/
def fsL : List Nat := [7, 8, 9, 15, 17, 18, 19, 20, 21, 22, 23, 34, 35, 36, 37, 39, 40, 41, 42, 43, 44, 45, 46, 47, 54, 55, 57, 58, 59, 60, 61, 62, 63, 64, 65, 66, 67, 68, 82, 83, 84, 85, 86, 87, 88, 89, 90, 91, 95, 96, 97, 98, 99, 101, 102, 103, 104, 113, 129, 130, 131, 132, 133, 138, 139, 140, 141, 142, 143, 145, 148, 149, 159, 160, 161, 162, 163, 164, 165, 166, 167, 207, 209, 211, 212, 214, 215, 216, 217, 218, 219, 223, 224, 225, 226, 227, 231, 232, 233]
def fsB : Nat := 24575660957169280201892920542773944804885110359272793437154683052262272
def pureB : Nat := 373413668358462637616297792238219633115956162593024
def bits : List Nat → Nat
  | [] => 0
  | k :: l => 2 ^ k ||| bits l
def fitFn (fn : Func) : Bool := !(fn.name == "runtime.NumGoroutine") && (match fn.body with | some c => dokC c | none => true)
def fitAll (P : Program) (l : List Nat) : Bool := l.all fun f => match P.funcs[f]? with | some fn => fitFn fn | none => true
/-- What some calls answer. -/
noncomputable def memoL (ms : List (Nat × List V × V)) (f : FuncId) (args : List V) : Option V := List.rec none (fun m _ ih => br (Nat.beq f m.1) (br (sameL args m.2.1) (some m.2.2) ih) ih) ms
noncomputable def cfg (ms : List (Nat × List V × V)) : Cfg := ⟨Tryz.prog, pureB, fsB, memoL ms⟩
set_option maxRecDepth 100000 in
theorem fit_all : fitAll Tryz.prog fsL = true := by kernel_rfl
theorem fs_bits : bits fsL = fsB := by decide +kernel
set_option maxRecDepth 100000 in
theorem mixed : (Tryz.prog).follows .mixedOrders = true := by kernel_rfl
end Go.Proofs.YtmjilfamjlnigaaGreat.Vm
