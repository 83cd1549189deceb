/- StepsKnown, run by the small machine: the run. -/
import Derived.Test.YtmjilfamjlnigaaGreatQ10
namespace Go.Proofs.YtmjilfamjlnigaaGreat.Vm
open Go

def isTrue (x : Option (V × H)) : Bool := match x with | some (.b true, _) => true | _ => false
set_option maxRecDepth 100000 in
theorem known_run : isTrue (call (cfg memos) 3000 7 [] ⟨0, .e⟩) = true := by kernel_rfl
end Go.Proofs.YtmjilfamjlnigaaGreat.Vm
