/-
  No cell of these rows narrows 'for every input' (looked for: loops, veiled, ifaces, maps, wideKeys, modest, calm, conditions, laid).
  DERIVED. THE GIVEN ROWS OF THIS SEAT. 5 by the template 'for every input the law returns true; each argument reads behind the call as it read before'; 0 by the template 'total and deterministic' (their statements: YtmjilfamjlnigaaGreatTotals.lean).
  GIVEN WITH THE SEED: the statements are not yours to turn. If you find one false, say at which input.
  Laid BY PROGRAM, IN A SANDBOX (cutbox-rows.mjs): the forced cells as the released guide's own fill.sh prints them over the translation a9b360e76f571903… (all of the seat's roots in one cut). By AI agents, Wed Nov 11 2026. No macro, syntax, notation, axiom, sorry.
-/
import Derived.Test.YtmjilfamjlnigaaGreatChecked
import GoSem.Claim
import GoSem.ClaimJoined
import GoSem.ClaimMapViews
import Derived.JoinedTies
import Derived.KernelRfl
namespace Go.Proofs.YtmjilfamjlnigaaGreat
/- THE CELL 'sum', in the pinned program and in every row, IS THE sha256 OF THE DUMP (.gsa) THAT YtmjilfamjlnigaaGreatProg.lean LOADS. Nothing in Lean hashes anything: it is a label: what it is worth is what the hold of that sum in a sandbox is worth. -/
noncomputable def Tryz.pinned : Pinned := { name := "ytmjilfamjlnigaagreat", sum := "a9b360e76f5719030e584718932f089b38ab3c042164cc3c1970dad480860fe6", checked := Tryz.checked }
namespace Rows
def none {H : Type} : Left H := { results := [], args := [] }

/-- 'sextantlaw19.StepsPrefix': WHATEVER THE INPUT: true; the input reads as it did. -/
def stepsPrefixSpec : ChangeSpec := { name := "stepsPrefix", fn := fun _ => fun
  | [d1, d2, d3, d4] => { results := [.lit (.bool true)], args := [d1, d2, d3, d4] }
  | _ => none }
def stepsPrefixRow : OpenClaim := { program := "ytmjilfamjlnigaagreat", sum := "a9b360e76f5719030e584718932f089b38ab3c042164cc3c1970dad480860fe6", func := "sextant/sextantlaw19.StepsPrefix", spec := "stepsPrefix", unfollowed := true, recurses := true, apart := false }
def StepsPrefixSaid : Prop := stepsPrefixRow.holds Tryz.pinned (OpenSpec.ofChange stepsPrefixSpec)

/-- ITS FALSE NEIGHBOUR: 'it returns false'. Refute it at one input. -/
def stepsPrefixWrong : ChangeSpec := { name := "stepsPrefix", fn := fun _ => fun
  | [d1, d2, d3, d4] => { results := [.lit (.bool false)], args := [d1, d2, d3, d4] }
  | _ => none }
def StepsPrefixWrongFalsely : Prop := stepsPrefixRow.holds Tryz.pinned (OpenSpec.ofChange stepsPrefixWrong)

/-- 'sextantlaw19.StepsKept': WHATEVER THE INPUT: true; the input reads as it did. -/
def stepsKeptSpec : ChangeSpec := { name := "stepsKept", fn := fun _ => fun
  | [d1, d2] => { results := [.lit (.bool true)], args := [d1, d2] }
  | _ => none }
def stepsKeptRow : OpenClaim := { program := "ytmjilfamjlnigaagreat", sum := "a9b360e76f5719030e584718932f089b38ab3c042164cc3c1970dad480860fe6", func := "sextant/sextantlaw19.StepsKept", spec := "stepsKept", unfollowed := true, recurses := true, apart := false }
def StepsKeptSaid : Prop := stepsKeptRow.holds Tryz.pinned (OpenSpec.ofChange stepsKeptSpec)

/-- ITS FALSE NEIGHBOUR: 'it returns false'. Refute it at one input. -/
def stepsKeptWrong : ChangeSpec := { name := "stepsKept", fn := fun _ => fun
  | [d1, d2] => { results := [.lit (.bool false)], args := [d1, d2] }
  | _ => none }
def StepsKeptWrongFalsely : Prop := stepsKeptRow.holds Tryz.pinned (OpenSpec.ofChange stepsKeptWrong)

/-- 'sextantlaw19.StepsLimit': WHATEVER THE INPUT: true; the input reads as it did. -/
def stepsLimitSpec : ChangeSpec := { name := "stepsLimit", fn := fun _ => fun
  | [] => { results := [.lit (.bool true)], args := [] }
  | _ => none }
def stepsLimitRow : OpenClaim := { program := "ytmjilfamjlnigaagreat", sum := "a9b360e76f5719030e584718932f089b38ab3c042164cc3c1970dad480860fe6", func := "sextant/sextantlaw19.StepsLimit", spec := "stepsLimit", unfollowed := true, recurses := true, apart := false }
def StepsLimitSaid : Prop := stepsLimitRow.holds Tryz.pinned (OpenSpec.ofChange stepsLimitSpec)

/-- ITS FALSE NEIGHBOUR: 'it returns false'. Refute it at one input. -/
def stepsLimitWrong : ChangeSpec := { name := "stepsLimit", fn := fun _ => fun
  | [] => { results := [.lit (.bool false)], args := [] }
  | _ => none }
def StepsLimitWrongFalsely : Prop := stepsLimitRow.holds Tryz.pinned (OpenSpec.ofChange stepsLimitWrong)

/-- 'sextantlaw19.StepsWords': WHATEVER THE INPUT: true; the input reads as it did. -/
def stepsWordsSpec : ChangeSpec := { name := "stepsWords", fn := fun _ => fun
  | [d1, d2, d3, d4] => { results := [.lit (.bool true)], args := [d1, d2, d3, d4] }
  | _ => none }
def stepsWordsRow : OpenClaim := { program := "ytmjilfamjlnigaagreat", sum := "a9b360e76f5719030e584718932f089b38ab3c042164cc3c1970dad480860fe6", func := "sextant/sextantlaw19.StepsWords", spec := "stepsWords", unfollowed := true, recurses := true, apart := false }
def StepsWordsSaid : Prop := stepsWordsRow.holds Tryz.pinned (OpenSpec.ofChange stepsWordsSpec)

/-- ITS FALSE NEIGHBOUR: 'it returns false'. Refute it at one input. -/
def stepsWordsWrong : ChangeSpec := { name := "stepsWords", fn := fun _ => fun
  | [d1, d2, d3, d4] => { results := [.lit (.bool false)], args := [d1, d2, d3, d4] }
  | _ => none }
def StepsWordsWrongFalsely : Prop := stepsWordsRow.holds Tryz.pinned (OpenSpec.ofChange stepsWordsWrong)

/-- 'sextantlaw19.StepsKnown': WHATEVER THE INPUT: true; the input reads as it did. -/
def stepsKnownSpec : ChangeSpec := { name := "stepsKnown", fn := fun _ => fun
  | [] => { results := [.lit (.bool true)], args := [] }
  | _ => none }
def stepsKnownRow : OpenClaim := { program := "ytmjilfamjlnigaagreat", sum := "a9b360e76f5719030e584718932f089b38ab3c042164cc3c1970dad480860fe6", func := "sextant/sextantlaw19.StepsKnown", spec := "stepsKnown", unfollowed := true, recurses := true, apart := false }
def StepsKnownSaid : Prop := stepsKnownRow.holds Tryz.pinned (OpenSpec.ofChange stepsKnownSpec)

/-- ITS FALSE NEIGHBOUR: 'it returns false'. Refute it at one input. -/
def stepsKnownWrong : ChangeSpec := { name := "stepsKnown", fn := fun _ => fun
  | [] => { results := [.lit (.bool false)], args := [] }
  | _ => none }
def StepsKnownWrongFalsely : Prop := stepsKnownRow.holds Tryz.pinned (OpenSpec.ofChange stepsKnownWrong)

/- THE SECOND FORM. 'bulk': how many values and letters a reading holds, each counted each time it is reached (what is shared counts as often as it is met; a slice's spare places count too). A statement '..UptoSaid' is the law's where the arguments, and the package variables that the reading takes, are together of bulk at most 1048576: NARROWER than '..Said'. Prove '..Said' where nothing that the law and all that it calls make is longer than what came in: it says more and counts as full. Else prove '..UptoSaid'. A law counts once. -/
mutual
def uptoBulk {H : Type} : DataW H → Nat
  | .lit (.string bytes) => bytes.length + 1
  | .lit _ => 1
  | .nil => 1
  | .ptr d => uptoBulk d + 1
  | .slice elems spare => uptoBulkAll elems + uptoBulkAll spare + 1
  | .agg parts => uptoBulkAll parts + 1
  | .iface _ d => uptoBulk d + 1
  | .map entries => uptoBulkEntries entries + 1
  | .held _ => 1
def uptoBulkAll {H : Type} : List (DataW H) → Nat
  | [] => 0
  | d :: r => uptoBulk d + uptoBulkAll r
def uptoBulkEntries {H : Type} : List (Lit × DataW H) → Nat
  | [] => 0
  | x :: r => uptoBulkEntry x + uptoBulkEntries r
def uptoBulkEntry {H : Type} : Lit × DataW H → Nat
  | (.string bytes, d) => bytes.length + uptoBulk d + 1
  | (_, d) => uptoBulk d + 1
 end
def uptoSmall : (H : Type) → List (DataW H) → Bool := fun _ ds => decide (uptoBulkAll ds ≤ 1048576)
def OpenSpec.upto (s : _root_.Go.ChangeSpec) : _root_.Go.OpenSpec := { _root_.Go.OpenSpec.ofChange s with cond := some uptoSmall }

/-- 'sextantlaw19.StepsPrefix', WHERE WHAT IT READS IS OF BULK AT MOST 1048576: true; the input reads as it did. -/
def stepsPrefixUptoRow : OpenClaim := { program := "ytmjilfamjlnigaagreat", sum := "a9b360e76f5719030e584718932f089b38ab3c042164cc3c1970dad480860fe6", func := "sextant/sextantlaw19.StepsPrefix", spec := "stepsPrefix", unfollowed := true, recurses := true, apart := false, narrowed := true }
def StepsPrefixUptoSaid : Prop := stepsPrefixUptoRow.holds Tryz.pinned (OpenSpec.upto stepsPrefixSpec)

/-- 'sextantlaw19.StepsKept', WHERE WHAT IT READS IS OF BULK AT MOST 1048576: true; the input reads as it did. -/
def stepsKeptUptoRow : OpenClaim := { program := "ytmjilfamjlnigaagreat", sum := "a9b360e76f5719030e584718932f089b38ab3c042164cc3c1970dad480860fe6", func := "sextant/sextantlaw19.StepsKept", spec := "stepsKept", unfollowed := true, recurses := true, apart := false, narrowed := true }
def StepsKeptUptoSaid : Prop := stepsKeptUptoRow.holds Tryz.pinned (OpenSpec.upto stepsKeptSpec)

/-- 'sextantlaw19.StepsLimit', WHERE WHAT IT READS IS OF BULK AT MOST 1048576: true; the input reads as it did. -/
def stepsLimitUptoRow : OpenClaim := { program := "ytmjilfamjlnigaagreat", sum := "a9b360e76f5719030e584718932f089b38ab3c042164cc3c1970dad480860fe6", func := "sextant/sextantlaw19.StepsLimit", spec := "stepsLimit", unfollowed := true, recurses := true, apart := false, narrowed := true }
def StepsLimitUptoSaid : Prop := stepsLimitUptoRow.holds Tryz.pinned (OpenSpec.upto stepsLimitSpec)

/-- 'sextantlaw19.StepsWords', WHERE WHAT IT READS IS OF BULK AT MOST 1048576: true; the input reads as it did. -/
def stepsWordsUptoRow : OpenClaim := { program := "ytmjilfamjlnigaagreat", sum := "a9b360e76f5719030e584718932f089b38ab3c042164cc3c1970dad480860fe6", func := "sextant/sextantlaw19.StepsWords", spec := "stepsWords", unfollowed := true, recurses := true, apart := false, narrowed := true }
def StepsWordsUptoSaid : Prop := stepsWordsUptoRow.holds Tryz.pinned (OpenSpec.upto stepsWordsSpec)

/-- 'sextantlaw19.StepsKnown', WHERE WHAT IT READS IS OF BULK AT MOST 1048576: true; the input reads as it did. -/
def stepsKnownUptoRow : OpenClaim := { program := "ytmjilfamjlnigaagreat", sum := "a9b360e76f5719030e584718932f089b38ab3c042164cc3c1970dad480860fe6", func := "sextant/sextantlaw19.StepsKnown", spec := "stepsKnown", unfollowed := true, recurses := true, apart := false, narrowed := true }
def StepsKnownUptoSaid : Prop := stepsKnownUptoRow.holds Tryz.pinned (OpenSpec.upto stepsKnownSpec)

end Rows
end Go.Proofs.YtmjilfamjlnigaaGreat
