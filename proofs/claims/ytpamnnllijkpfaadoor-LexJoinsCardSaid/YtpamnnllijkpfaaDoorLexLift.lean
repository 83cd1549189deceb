/- FROM A ROW's CELLS TO WHAT THE WALKS ASK: the library's tables, as listed; a world for the witnesses. -/
import Derived.Test.YtpamnnllijkpfaaDoorCards
import Derived.Test.YtpamnnllijkpfaaDoorTie
import Derived.Test.YtpamnnllijkpfaaDoorLexC
import Derived.ProofKit
import Derived.OpenShut
import Derived.Deep.DeepHandedRow
import Derived.Lib.LaidTab
import Derived.Lib.LaidU8
namespace Go.Proofs.YtpamnnllijkpfaaDoor.Lift
open Go Go.ChangeShapes Go.WideShapes Go.ChangeAt Go.RowKit Go.Proofs.YtpamnnllijkpfaaDoor.Kit Go.Proofs.YtpamnnllijkpfaaDoor.LexW

theorem own : ownKnob Tryd.prog.godebug = none := by kernel_rfl
def laidL : List (String × DataW Unit) := [("unicode/utf8.acceptRanges", Rows.laid_unicode_utf8_acceptRanges), ("unicode/utf8.first", Rows.laid_unicode_utf8_first)]
theorem first_eq : Rows.laid_unicode_utf8_first = Lib.firstData := by kernel_rfl
theorem accept_eq : (Rows.laid_unicode_utf8_acceptRanges : DataW Unit) = Lib.acceptData := by kernel_rfl

/-- What a row's list and the world's shape give. -/
theorem env_of {W : World} (hL : laidMetH Tryd.prog laidL W) (hsh : W.ShapedOpen Tryd.prog) : Env W := by
  have hL' : laidMet Tryd.prog laidL W := hL
  have h3 : Lib.VarReads Tryd.prog W "unicode/utf8.first" Lib.firstData := by rw [← first_eq]; exact Lib.laidMet.reads hL' (.tail _ (.head _))
  have h4 : Lib.VarReads Tryd.prog W "unicode/utf8.acceptRanges" Lib.acceptData := by rw [← accept_eq]; exact Lib.laidMet.reads hL' (.head _)
  have hU : Lib.Utf8Tabs 1 2 W :=
    utf8Tabs_of_reads (ρ := Tryd.lays260_ren) Tryd.lays260 ⟨by kernel_rfl, by kernel_rfl, by kernel_rfl, by kernel_rfl, by kernel_rfl, by kernel_rfl, by kernel_rfl⟩ h3 h4
  obtain ⟨m, hm⟩ := Tryd.laysM144.s1_3 W hsh
  refine ⟨hU, ⟨m, hm⟩, ?_⟩
  have h2 := (hU.2 0 (by omega)).1
  have h1 := hU.1 0 (by omega)
  have b1 : 1 < W.heap.size := World.block_lt_of_cell? W _ h1
  have b2 : 2 < W.heap.size := World.block_lt_of_cell? W _ h2
  have b3 : 0 < W.heap.size := World.block_lt_of_cell? W _ hm
  omega

/-- A WORLD FOR THE WITNESS: the settled one, the two tables holding what their initialisers lay. -/
noncomputable def laidWorld (os : Os) : World :=
  let w0 := World.holding Tryd.prog os ⟨#[], #[], []⟩
  let put (h : Array Obj) (g : Nat) (cs : Array Value) : Array Obj := h.modify g fun
    | .cells _ t frozen => .cells cs t frozen
    | o => o
  let h1 := put w0.heap 1 (Lib.firstTab.map fun z => Value.int .u8 z).toArray
  let h2 := put h1 2 ((List.range 16).flatMap fun i => [Value.int .u8 (Lib.accLo i), Value.int .u8 (Lib.accHi i)]).toArray
  { w0 with heap := h2 }
theorem laid_met (os : Os) (args : Array Value) : laidMet Tryd.prog laidL ((laidWorld os).forCall (fun _ _ => 0) ⟨#[], args, []⟩).memory :=
  laidMet_of_run' 8 (by kernel_rfl) (by kernel_rfl)
end Go.Proofs.YtpamnnllijkpfaaDoor.Lift
